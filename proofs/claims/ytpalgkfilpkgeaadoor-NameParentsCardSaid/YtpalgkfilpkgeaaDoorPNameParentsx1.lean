-- Laid by a program of this session out of the translation (the kit's printing program, with some contracts given by hand). Lean checks it.
import Derived.Test.YtpalgkfilpkgeaaDoorPNameParentsx0
import Derived.Test.YtpalgkfilpkgeaaDoorGiven8
namespace Go.Proofs.YtpalgkfilpkgeaaDoor.PNameParents
open Go.Proofs.YtpalgkfilpkgeaaDoor.Given2 Go.Proofs.YtpalgkfilpkgeaaDoor.Given7 Go.RowKit Go.Proofs.YtpalgkfilpkgeaaDoorW.PrintWords Go.Proofs.YtpalgkfilpkgeaaDoorW.PrintLast Go.Proofs.YtpalgkfilpkgeaaDoorW.PrintMore
attribute [local go_sem] max2_int min2_int max_two min_two max_three min_three max_four min_four   -- for this text's walks alone
set_option linter.unusedVariables false
set_option linter.unusedSimpArgs false

/-! ### name_Less: function 18 -/
def name_Less.f (a0 : ByteArray) (a1 : ByteArray) : Option (Bool) := some (Op.bytesLess a0.toList a1.toList)
set_option maxHeartbeats 8000000 in
set_option maxRecDepth 100000 in
theorem name_Less.calls (a0 : ByteArray) (a1 : ByteArray) (r : Bool) (w : World) (h : name_Less.f a0 a1 = some r) :
    Calls Tryd.prog 18 #[.string a0, .string a1] w fun e w' => e = .returned (.bool r) ∧ Drawn0 w w' := by
  have H : (some (Op.bytesLess a0.toList a1.toList)) = some r := h
  clear h
  obtain rfl := Option.some.inj H
  go_enter Tryd.func18, Tryd.ntmps18
  go_wp2
  go_ret
  exact ⟨by first | rfl | (simp; done) | (simp [*]; done), by repeat (first | exact Drawn0.refl _ | apply Drawn0.step)⟩

/-! ### credenzalaw9_NameParents: function 6 -/
mutual
def credenzalaw9_NameParents.j0 : Nat → List ByteArray → ByteArray → ByteArray → Bool → Option (Bool)
  | 0, _, _, _, _ => none
  | k + 1, x0, x1, x2, x27 => if x27 = true then ((credenzalaw9_awake.f).bind fun t101 => (some t101)) else ((name_Join.f x0).bind fun bt102 => (if bt102.2 = true then (credenzalaw9_NameParents.j1 k x0 x1 x2 bt102.1 ((x0.length : Int) == 0)) else (credenzalaw9_NameParents.j1 k x0 x1 x2 bt102.1 true)))
def credenzalaw9_NameParents.j1 : Nat → List ByteArray → ByteArray → ByteArray → ByteArray → Bool → Option (Bool)
  | 0, _, _, _, _, _ => none
  | k + 1, x0, x1, x2, x7, x40 => if x40 = true then ((credenzalaw9_awake.f).bind fun t104 => (some t104)) else ((name_Parent.f x7).bind fun bt105 => (if bt105.1.size + 1 ≤ 9223372036854775807 then (if (bt105.1 ++ (⟨#[47]⟩ : ByteArray)).size + bt105.2.1.size ≤ 9223372036854775807 then (if bt105.1.toList = ([47] : List UInt8) then (if 1 + bt105.2.1.size ≤ 9223372036854775807 then (credenzalaw9_NameParents.j2 k x0 x1 x2 x7 bt105.1 bt105.2.1 bt105.2.2 ((⟨#[47]⟩ : ByteArray) ++ bt105.2.1)) else (none)) else (credenzalaw9_NameParents.j2 k x0 x1 x2 x7 bt105.1 bt105.2.1 bt105.2.2 ((bt105.1 ++ (⟨#[47]⟩ : ByteArray)) ++ bt105.2.1))) else (none)) else (none)))
def credenzalaw9_NameParents.j2 : Nat → List ByteArray → ByteArray → ByteArray → ByteArray → ByteArray → ByteArray → Bool → ByteArray → Option (Bool)
  | 0, _, _, _, _, _, _, _, _ => none
  | k + 1, x0, x1, x2, x7, x9, x10, x11, x12 => (name_Split.f x9).bind fun bt108 => (if x11 = true then (if x12.toList = x7.toList then (if 0 ≤ (wrap64 ((x0.length : Int) - 1)) then (if (wrap64 ((x0.length : Int) - 1)) < (x0.length : Int) then (if x10.toList = (rdOf ByteArray.empty x0 (wrap64 ((x0.length : Int) - 1))).toList then (if bt108.2 = true then (if (wrap64 ((x0.length : Int) - 1)) ≤ (x0.length : Int) then ((credenzaref2_SameTexts.f bt108.1 (x0.take ((wrap64 ((x0.length : Int) - 1)) : Int).toNat)).bind fun t114 => (if t114 = true then ((name_Less.f x1 x2).bind fun t115 => (if (t115 == (Op.bytesLess x1.toList x2.toList)) = true then ((name_Less.f x1 x1).bind fun t116 => (if t116 = true then (some false) else ((credenzalaw9_awake.f).bind fun t117 => (some t117)))) else (some false))) else (some false))) else (none)) else (some false)) else (some false)) else (none)) else (none)) else (some false)) else (some false))
end
def credenzalaw9_NameParents.f (k : Nat) (l0 : List ByteArray) (a1 : ByteArray) (a2 : ByteArray) : Option (Bool) := if (l0.length : Int) > 20 then (credenzalaw9_NameParents.j0 k l0 a1 a2 true) else (if (a1.size : Int) > 200 then (credenzalaw9_NameParents.j0 k l0 a1 a2 true) else (credenzalaw9_NameParents.j0 k l0 a1 a2 (decide ((a2.size : Int) > 200))))
theorem credenzalaw9_NameParents.mono_l : ∀ k, (∀ y0 y1 y2 y3, LeO (credenzalaw9_NameParents.j0 k y0 y1 y2 y3) (credenzalaw9_NameParents.j0 (k + 1) y0 y1 y2 y3)) ∧ (∀ y0 y1 y2 y3 y4, LeO (credenzalaw9_NameParents.j1 k y0 y1 y2 y3 y4) (credenzalaw9_NameParents.j1 (k + 1) y0 y1 y2 y3 y4)) ∧ (∀ y0 y1 y2 y3 y4 y5 y6 y7, LeO (credenzalaw9_NameParents.j2 k y0 y1 y2 y3 y4 y5 y6 y7) (credenzalaw9_NameParents.j2 (k + 1) y0 y1 y2 y3 y4 y5 y6 y7))
  | 0 => ⟨fun _ _ _ _ r h => by simp [credenzalaw9_NameParents.j0] at h, fun _ _ _ _ _ r h => by simp [credenzalaw9_NameParents.j1] at h, fun _ _ _ _ _ _ _ _ r h => by simp [credenzalaw9_NameParents.j2] at h⟩
  | k + 1 => by
    obtain ⟨ih0, ih1, ih2⟩ := credenzalaw9_NameParents.mono_l k
    refine ⟨?_, ?_, ?_⟩
    · intro y0 y1 y2 y3
      unfold credenzalaw9_NameParents.j0
      repeat' first
      | (with_reducible exact ih0 _ _ _ _)
      | (with_reducible exact ih1 _ _ _ _ _)
      | (with_reducible exact ih2 _ _ _ _ _ _ _ _)
      | (with_reducible exact LeO.refl _)
      | (with_reducible exact LeO.none _)
      | (with_reducible refine LeO.ite ?_ ?_)
      | (with_reducible refine LeO.bind ?_ (fun _ => ?_))
      | exact ih0 _ _ _ _
      | exact ih1 _ _ _ _ _
      | exact ih2 _ _ _ _ _ _ _ _
      | exact LeO.none _
      | refine LeO.ite ?_ ?_
      | refine LeO.bind ?_ (fun _ => ?_)
    · intro y0 y1 y2 y3 y4
      unfold credenzalaw9_NameParents.j1
      repeat' first
      | (with_reducible exact ih0 _ _ _ _)
      | (with_reducible exact ih1 _ _ _ _ _)
      | (with_reducible exact ih2 _ _ _ _ _ _ _ _)
      | (with_reducible exact LeO.refl _)
      | (with_reducible exact LeO.none _)
      | (with_reducible refine LeO.ite ?_ ?_)
      | (with_reducible refine LeO.bind ?_ (fun _ => ?_))
      | exact ih0 _ _ _ _
      | exact ih1 _ _ _ _ _
      | exact ih2 _ _ _ _ _ _ _ _
      | exact LeO.none _
      | refine LeO.ite ?_ ?_
      | refine LeO.bind ?_ (fun _ => ?_)
    · intro y0 y1 y2 y3 y4 y5 y6 y7
      unfold credenzalaw9_NameParents.j2
      repeat' first
      | (with_reducible exact ih0 _ _ _ _)
      | (with_reducible exact ih1 _ _ _ _ _)
      | (with_reducible exact ih2 _ _ _ _ _ _ _ _)
      | (with_reducible exact LeO.refl _)
      | (with_reducible exact LeO.none _)
      | (with_reducible refine LeO.ite ?_ ?_)
      | (with_reducible refine LeO.bind ?_ (fun _ => ?_))
      | exact ih0 _ _ _ _
      | exact ih1 _ _ _ _ _
      | exact ih2 _ _ _ _ _ _ _ _
      | exact LeO.none _
      | refine LeO.ite ?_ ?_
      | refine LeO.bind ?_ (fun _ => ?_)
theorem credenzalaw9_NameParents.mono : ∀ a0 a1 a2 k, LeO (credenzalaw9_NameParents.f k a0 a1 a2) (credenzalaw9_NameParents.f (k + 1) a0 a1 a2) := by
  intro a0 a1 a2 k
  obtain ⟨ih0, ih1, ih2⟩ := credenzalaw9_NameParents.mono_l k
  unfold credenzalaw9_NameParents.f
  repeat' first
      | (with_reducible exact ih0 _ _ _ _)
      | (with_reducible exact ih1 _ _ _ _ _)
      | (with_reducible exact ih2 _ _ _ _ _ _ _ _)
      | (with_reducible exact LeO.refl _)
      | (with_reducible exact LeO.none _)
      | (with_reducible refine LeO.ite ?_ ?_)
      | (with_reducible refine LeO.bind ?_ (fun _ => ?_))
      | exact ih0 _ _ _ _
      | exact ih1 _ _ _ _ _
      | exact ih2 _ _ _ _ _ _ _ _
      | exact LeO.none _
      | refine LeO.ite ?_ ?_
      | refine LeO.bind ?_ (fun _ => ?_)
set_option maxHeartbeats 8000000 in
set_option maxRecDepth 100000 in
theorem credenzalaw9_NameParents.calls (k : Nat) (A0 : Option Addr) (c0 : Nat) (l0 : List ByteArray) (a1 : ByteArray) (a2 : ByteArray) (r : Bool) (w : World) (hr0 : Kd.C Kd.string w A0 l0.length l0) (hc0 : l0.length ≤ c0) (h : credenzalaw9_NameParents.f k l0 a1 a2 = some r) :
    Calls Tryd.prog 6 #[.slice A0 l0.length c0, .string a1, .string a2] w fun e w' => e = .returned (.bool r) ∧ Below w.heap.size w w' := by
  have HR0 := Aside0.mk hr0
  have HC0 := Aside0.mk hc0
  clear hr0 hc0
  have HB := Aside0.mk (Below.refl w.heap.size w)
  have H : (if (l0.length : Int) > 20 then (credenzalaw9_NameParents.j0 k l0 a1 a2 true) else (if (a1.size : Int) > 200 then (credenzalaw9_NameParents.j0 k l0 a1 a2 true) else (credenzalaw9_NameParents.j0 k l0 a1 a2 (decide ((a2.size : Int) > 200))))) = some r := h
  clear h
  have HC4 := Aside0.mk H
  clear H
  go_enter Tryd.func6, Tryd.ntmps6
  go_upto_region 1 with (fail)
  go_cut [27] (fun v27 wc => ∃ (kq : Nat) (x27_3 : Bool), v27 = .bool x27_3 ∧ Aside0 (credenzalaw9_NameParents.j0 kq l0 a1 a2 x27_3 = some r) ∧ Aside0 (kq ≤ k) ∧ Aside0 (Below w.heap.size w wc))
  case first =>
    have H := HC4.out
    clear HC4
    by_cases c5 : (l0.length : Int) > 20
    · rw [if_pos c5] at H
      have c5b0 : decide (20 < (l0.length : Int)) = true := decide_eq_true c5
      have c5b1 : decide (20 < l0.length) = true := decide_eq_true (by omega)
      clear c5
      (first | rw [c5b0] | (simp only [i64_w, i32_w]; rw [c5b0]) | skip)
      have H' := Aside0.mk H
      clear H
      go_wp2
      go_meet
      case rel => exact ⟨_, (true), (by first | rfl | (simp; done) | (simp [*]; done)), H', ⟨by first | omega | exact Nat.le_refl _⟩, ⟨by repeat (first | (with_reducible first | exact HB.out | apply below_alloc | apply pw_below_drewN | apply below_drew1) | exact HB.out)⟩⟩
    · rw [if_neg c5] at H
      have c5b0 : decide (20 < (l0.length : Int)) = false := decide_eq_false c5
      have c5b1 : decide (20 < l0.length) = false := decide_eq_false (by omega)
      clear c5
      (first | rw [c5b0] | (simp only [i64_w, i32_w]; rw [c5b0]) | skip)
      by_cases c6 : (a1.size : Int) > 200
      · rw [if_pos c6] at H
        have c6b0 : decide (200 < (a1.size : Int)) = true := decide_eq_true c6
        have c6b1 : decide (200 < a1.size) = true := decide_eq_true (by omega)
        clear c6
        have H' := Aside0.mk H
        clear H
        go_wp2
        go_meet
        case rel => exact ⟨_, (true), (by first | rfl | (simp; done) | (simp [*]; done)), H', ⟨by first | omega | exact Nat.le_refl _⟩, ⟨by repeat (first | (with_reducible first | exact HB.out | apply below_alloc | apply pw_below_drewN | apply below_drew1) | exact HB.out)⟩⟩
      · rw [if_neg c6] at H
        have c6b0 : decide (200 < (a1.size : Int)) = false := decide_eq_false c6
        have c6b1 : decide (200 < a1.size) = false := decide_eq_false (by omega)
        clear c6
        have H' := Aside0.mk H
        clear H
        go_wp2
        go_meet
        case rel => exact ⟨_, (decide ((a2.size : Int) > 200)), (by first | rfl | (simp; done) | (simp [*]; done)), H', ⟨by first | omega | exact Nat.le_refl _⟩, ⟨by repeat (first | (with_reducible first | exact HB.out | apply below_alloc | apply pw_below_drewN | apply below_drew1) | exact HB.out)⟩⟩
  case rest =>
    clear HC4
    try clear p2
    try clear c5
    try clear c5b0
    try clear c5b1
    try clear c6
    try clear c6b0
    try clear c6b1
    obtain ⟨kq, x27_3, rfl, HA, HJ3, HB⟩ := hcut
    cases kq with
    | zero => exact absurd HA.out (by simp [credenzalaw9_NameParents.j0])
    | succ kj3 =>
      have H := HA.out
      clear HA
      simp only [credenzalaw9_NameParents.j0] at H
      by_cases c7 : x27_3 = true
      · subst c7
        have H1 : ((credenzalaw9_awake.f).bind fun t101 => (some t101)) = some r := by rw [if_pos rfl] at H; exact H
        clear H
        have H := H1
        clear H1
        replace H := Option.bind_eq_some_iff.mp H
        obtain ⟨t101, A80, H⟩ := H
        replace H : (some t101) = some r := H
        have A8 := Aside0.mk A80
        clear A80
        obtain rfl := Option.some.inj H
        go_wp2_with (first | ((with_reducible refine gate_callee (f := 10) rfl ?_); refine goesL_ (some 28) rfl rfl Tryd.func10 (by kernel_rfl) rfl #[] rfl (by (try simp only [List.map_toArray, List.map_cons, List.map_nil]); first | done | rfl | (simp only [List.length_drop, List.length_take]; rfl)) ?_; (with_reducible refine (credenzalaw9_awake.calls  t101 _ A8.out).mono ?_); rintro e w9 ⟨rfl, hb⟩; refine ⟨_, rfl, ?_⟩; have n0_ := Aside0.mk (below_step (by repeat (first | (with_reducible first | exact HB.out | apply below_alloc | apply pw_below_drewN | apply below_drew1) | exact HB.out)) hb); clear HB; have HB := n0_; clear n0_; (try clear hb); (try clear hb2); (try clear hk); (try clear hi)))
        go_ret
        exact ⟨by first | rfl | (simp [errW_none, errW_some] <;> rfl) | (simp [*, errW_none, errW_some] <;> rfl), by repeat (first | (with_reducible first | exact HB.out | apply below_alloc | apply pw_below_drewN | apply below_drew1) | exact HB.out)⟩
      · replace c7 := Bool.eq_false_iff.mpr c7
        subst c7
        have H1 : ((name_Join.f l0).bind fun bt102 => (if bt102.2 = true then (credenzalaw9_NameParents.j1 kj3 l0 a1 a2 bt102.1 ((l0.length : Int) == 0)) else (credenzalaw9_NameParents.j1 kj3 l0 a1 a2 bt102.1 true))) = some r := by rw [if_neg (show ¬ (false = true) by decide)] at H; exact H
        clear H
        have H := H1
        clear H1
        replace H := Option.bind_eq_some_iff.mp H
        obtain ⟨⟨t102, t103⟩, A100, H⟩ := H
        replace H : (if t103 = true then (credenzalaw9_NameParents.j1 kj3 l0 a1 a2 t102 ((l0.length : Int) == 0)) else (credenzalaw9_NameParents.j1 kj3 l0 a1 a2 t102 true)) = some r := H
        have A10 := Aside0.mk A100
        clear A100
        have HC11 := Aside0.mk H
        clear H
        go_upto_region 4 with (first | ((with_reducible refine gate_callee (f := 11) rfl ?_); refine goesL_ (some 31) rfl rfl Tryd.func11 (by kernel_rfl) rfl #[.slice A0 l0.length c0] rfl (by (try simp only [List.map_toArray, List.map_cons, List.map_nil]); first | done | rfl | (simp only [List.length_drop, List.length_take]; rfl)) ?_; (with_reducible refine (name_Join.calls _ _ l0 t102 t103 _ ?side1 ?side2 A10.out).mono ?_); (case side1 => repeat (first | exact (Kd.C_below HR0.out HB.out) | (with_reducible refine Kd.C_alloc ?_ _) | (with_reducible refine Kd.C_drewN ?_ _) | (with_reducible refine Kd.C_drew ?_))); (case side2 => exact HC0.out); rintro e w12 ⟨rfl, hb⟩; refine ⟨_, rfl, ?_⟩; have n0_ := Aside0.mk (below_step (by repeat (first | (with_reducible first | exact HB.out | apply below_alloc | apply pw_below_drewN | apply below_drew1) | exact HB.out)) hb); clear HB; have HB := n0_; clear n0_; (try clear hb); (try clear hb2); (try clear hk); (try clear hi)))
        (try simp only [Act.put, List.setIfInBounds_toArray, List.set_cons_zero, List.set_cons_succ])
        go_cut [40] (fun v40 wc => ∃ (kq : Nat) (x40_10 : Bool), v40 = .bool x40_10 ∧ Aside0 (credenzalaw9_NameParents.j1 kq l0 a1 a2 t102 x40_10 = some r) ∧ Aside0 (kq ≤ kj3) ∧ Aside0 (Below w.heap.size w wc))
        case first =>
          have H := HC11.out
          clear HC11
          by_cases c13 : t103 = true
          · subst c13
            have H1 : (credenzalaw9_NameParents.j1 kj3 l0 a1 a2 t102 ((l0.length : Int) == 0)) = some r := by rw [if_pos rfl] at H; exact H
            clear H
            have H := H1
            clear H1
            have H' := Aside0.mk H
            clear H
            go_wp2
            go_meet
            case rel => exact ⟨_, (((l0.length : Int) == 0)), (by first | rfl | (simp; done) | (simp [*]; done)), H', ⟨by have := HJ3.out; first | omega | exact Nat.le_refl _⟩, ⟨by repeat (first | (with_reducible first | exact HB.out | apply below_alloc | apply pw_below_drewN | apply below_drew1) | exact HB.out)⟩⟩
          · replace c13 := Bool.eq_false_iff.mpr c13
            subst c13
            have H1 : (credenzalaw9_NameParents.j1 kj3 l0 a1 a2 t102 true) = some r := by rw [if_neg (show ¬ (false = true) by decide)] at H; exact H
            clear H
            have H := H1
            clear H1
            have H' := Aside0.mk H
            clear H
            go_wp2
            go_meet
            case rel => exact ⟨_, (true), (by first | rfl | (simp; done) | (simp [*]; done)), H', ⟨by have := HJ3.out; first | omega | exact Nat.le_refl _⟩, ⟨by repeat (first | (with_reducible first | exact HB.out | apply below_alloc | apply pw_below_drewN | apply below_drew1) | exact HB.out)⟩⟩
        case rest =>
          clear HC11
          try clear c1
          try clear p2
          try clear c5
          try clear c5b0
          try clear c5b1
          try clear c6
          try clear c6b0
          try clear c6b1
          try clear c7
          try clear c10
          try clear c11
          try clear c13
          try clear p2
          obtain ⟨kq, x40_10, rfl, HA, HJ10, HB⟩ := hcut
          cases kq with
          | zero => exact absurd HA.out (by simp [credenzalaw9_NameParents.j1])
          | succ kj10 =>
            have H := HA.out
            clear HA
            simp only [credenzalaw9_NameParents.j1] at H
            by_cases c14 : x40_10 = true
            · subst c14
              have H1 : ((credenzalaw9_awake.f).bind fun t104 => (some t104)) = some r := by rw [if_pos rfl] at H; exact H
              clear H
              have H := H1
              clear H1
              replace H := Option.bind_eq_some_iff.mp H
              obtain ⟨t104, A150, H⟩ := H
              replace H : (some t104) = some r := H
              have A15 := Aside0.mk A150
              clear A150
              obtain rfl := Option.some.inj H
              go_wp2_with (first | ((with_reducible refine gate_callee (f := 10) rfl ?_); refine goesL_ (some 41) rfl rfl Tryd.func10 (by kernel_rfl) rfl #[] rfl (by (try simp only [List.map_toArray, List.map_cons, List.map_nil]); first | done | rfl | (simp only [List.length_drop, List.length_take]; rfl)) ?_; (with_reducible refine (credenzalaw9_awake.calls  t104 _ A15.out).mono ?_); rintro e w16 ⟨rfl, hb⟩; refine ⟨_, rfl, ?_⟩; have n0_ := Aside0.mk (below_step (by repeat (first | (with_reducible first | exact HB.out | apply below_alloc | apply pw_below_drewN | apply below_drew1) | exact HB.out)) hb); clear HB; have HB := n0_; clear n0_; (try clear hb); (try clear hb2); (try clear hk); (try clear hi)))
              go_ret
              exact ⟨by first | rfl | (simp [errW_none, errW_some] <;> rfl) | (simp [*, errW_none, errW_some] <;> rfl), by repeat (first | (with_reducible first | exact HB.out | apply below_alloc | apply pw_below_drewN | apply below_drew1) | exact HB.out)⟩
            · replace c14 := Bool.eq_false_iff.mpr c14
              subst c14
              have H1 : ((name_Parent.f t102).bind fun bt105 => (if bt105.1.size + 1 ≤ 9223372036854775807 then (if (bt105.1 ++ (⟨#[47]⟩ : ByteArray)).size + bt105.2.1.size ≤ 9223372036854775807 then (if bt105.1.toList = ([47] : List UInt8) then (if 1 + bt105.2.1.size ≤ 9223372036854775807 then (credenzalaw9_NameParents.j2 kj10 l0 a1 a2 t102 bt105.1 bt105.2.1 bt105.2.2 ((⟨#[47]⟩ : ByteArray) ++ bt105.2.1)) else (none)) else (credenzalaw9_NameParents.j2 kj10 l0 a1 a2 t102 bt105.1 bt105.2.1 bt105.2.2 ((bt105.1 ++ (⟨#[47]⟩ : ByteArray)) ++ bt105.2.1))) else (none)) else (none))) = some r := by rw [if_neg (show ¬ (false = true) by decide)] at H; exact H
              clear H
              have H := H1
              clear H1
              replace H := Option.bind_eq_some_iff.mp H
              obtain ⟨⟨t105, t106, t107⟩, A170, H⟩ := H
              replace H : (if t105.size + 1 ≤ 9223372036854775807 then (if (t105 ++ (⟨#[47]⟩ : ByteArray)).size + t106.size ≤ 9223372036854775807 then (if t105.toList = ([47] : List UInt8) then (if 1 + t106.size ≤ 9223372036854775807 then (credenzalaw9_NameParents.j2 kj10 l0 a1 a2 t102 t105 t106 t107 ((⟨#[47]⟩ : ByteArray) ++ t106)) else (none)) else (credenzalaw9_NameParents.j2 kj10 l0 a1 a2 t102 t105 t106 t107 ((t105 ++ (⟨#[47]⟩ : ByteArray)) ++ t106))) else (none)) else (none)) = some r := H
              have A17 := Aside0.mk A170
              clear A170
              by_cases c18 : t105.size + 1 ≤ 9223372036854775807
              · rw [if_pos c18] at H
                have c18b0 := eq_true c18
                have c18b1 : decide (t105.size + 1 ≤ 9223372036854775807) = true := decide_eq_true c18
                try have c18b2 : (9223372036854775807 < t105.size + 1) = False := eq_false (Nat.not_lt.2 c18)
                by_cases c19 : (t105 ++ (⟨#[47]⟩ : ByteArray)).size + t106.size ≤ 9223372036854775807
                · rw [if_pos c19] at H
                  have c19b0 := eq_true c19
                  have c19b1 : decide ((t105 ++ (⟨#[47]⟩ : ByteArray)).size + t106.size ≤ 9223372036854775807) = true := decide_eq_true c19
                  try have c19b2 : (9223372036854775807 < (t105 ++ (⟨#[47]⟩ : ByteArray)).size + t106.size) = False := eq_false (Nat.not_lt.2 c19)
                  have HC20 := Aside0.mk H
                  clear H
                  go_upto_if 53 with (first | ((with_reducible refine gate_callee (f := 17) rfl ?_); refine goesL_ (some 44) rfl rfl Tryd.func17 (by kernel_rfl) rfl #[.string t102] rfl (by (try simp only [List.map_toArray, List.map_cons, List.map_nil]); first | done | rfl | (simp only [List.length_drop, List.length_take]; rfl)) ?_; (with_reducible refine (name_Parent.calls t102 t105 t106 t107 _ A17.out).mono ?_); rintro e w21 ⟨rfl, hb⟩; refine ⟨_, rfl, ?_⟩; have n0_ := Aside0.mk (below_step (by repeat (first | (with_reducible first | exact HB.out | apply below_alloc | apply pw_below_drewN | apply below_drew1) | exact HB.out)) hb); clear HB; have HB := n0_; clear n0_; (try clear hb); (try clear hb2); (try clear hk); (try clear hi)))
                  (try simp only [Act.put, List.setIfInBounds_toArray, List.set_cons_zero, List.set_cons_succ])
                  go_cut [12] (fun v12 wc => ∃ (kq : Nat) (x12_19 : ByteArray), v12 = .string x12_19 ∧ Aside0 (credenzalaw9_NameParents.j2 kq l0 a1 a2 t102 t105 t106 t107 x12_19 = some r) ∧ Aside0 (kq ≤ kj10) ∧ Aside0 (Below w.heap.size w wc))
                  case first =>
                    have H := HC20.out
                    clear HC20
                    by_cases c22 : t105.toList = ([47] : List UInt8)
                    · rw [if_pos c22] at H
                      have c22b0 : (t105.toList == ([47] : List UInt8)) = true := beq_iff_eq.mpr c22
                      have c22b1 : (t105.toList != ([47] : List UInt8)) = false := bne_eq_false_iff_eq.mpr c22
                      clear c22
                      (first | rw [c22b0] | (simp only [i64_w, i32_w]; rw [c22b0]) | skip)
                      by_cases c23 : 1 + t106.size ≤ 9223372036854775807
                      · rw [if_pos c23] at H
                        have c23b0 := eq_true c23
                        have c23b1 : decide (1 + t106.size ≤ 9223372036854775807) = true := decide_eq_true c23
                        try have c23b2 : (9223372036854775807 < 1 + t106.size) = False := eq_false (Nat.not_lt.2 c23)
                        have H' := Aside0.mk H
                        clear H
                        go_wp2
                        go_meet
                        case rel => exact ⟨_, ((⟨#[47]⟩ : ByteArray) ++ t106), (by first | rfl | (simp; done) | (simp [*]; done)), H', ⟨by have := HJ3.out; have := HJ10.out; first | omega | exact Nat.le_refl _⟩, ⟨by repeat (first | (with_reducible first | exact HB.out | apply below_alloc | apply pw_below_drewN | apply below_drew1) | exact HB.out)⟩⟩
                      · rw [if_neg c23] at H
                        exact absurd H (by simp)
                    · rw [if_neg c22] at H
                      have c22b0 : (t105.toList == ([47] : List UInt8)) = false := beq_eq_false_iff_ne.mpr c22
                      have c22b1 : (t105.toList != ([47] : List UInt8)) = true := bne_iff_ne.mpr c22
                      (first | rw [c22b0] | (simp only [i64_w, i32_w]; rw [c22b0]) | skip)
                      have H' := Aside0.mk H
                      clear H
                      go_wp2
                      go_meet
                      case rel => exact ⟨_, ((t105 ++ (⟨#[47]⟩ : ByteArray)) ++ t106), (by first | rfl | (simp; done) | (simp [*]; done)), H', ⟨by have := HJ3.out; have := HJ10.out; first | omega | exact Nat.le_refl _⟩, ⟨by repeat (first | (with_reducible first | exact HB.out | apply below_alloc | apply pw_below_drewN | apply below_drew1) | exact HB.out)⟩⟩
                  case rest =>
                    clear HC20
                    try clear c1
                    try clear c2
                    try clear p2
                    try clear c5
                    try clear c5b0
                    try clear c5b1
                    try clear c6
                    try clear c6b0
                    try clear c6b1
                    try clear c7
                    try clear c10
                    try clear c11
                    try clear c13
                    try clear c14
                    try clear c17
                    try clear c18
                    try clear c18b0
                    try clear c18b1
                    try clear c18b2
                    try clear c19
                    try clear c19b0
                    try clear c19b1
                    try clear c19b2
                    try clear c22
                    try clear c22b0
                    try clear c22b1
                    try clear c23
                    try clear c23b0
                    try clear c23b1
                    try clear c23b2
                    try clear p2
                    obtain ⟨kq, x12_19, rfl, HA, HJ19, HB⟩ := hcut
                    cases kq with
                    | zero => exact absurd HA.out (by simp [credenzalaw9_NameParents.j2])
                    | succ kj19 =>
                      have H := HA.out
                      clear HA
                      simp only [credenzalaw9_NameParents.j2] at H
                      replace H := Option.bind_eq_some_iff.mp H
                      obtain ⟨⟨t108, t109⟩, A240, H⟩ := H
                      replace H : (if t107 = true then (if x12_19.toList = t102.toList then (if 0 ≤ (wrap64 ((l0.length : Int) - 1)) then (if (wrap64 ((l0.length : Int) - 1)) < (l0.length : Int) then (if t106.toList = (rdOf ByteArray.empty l0 (wrap64 ((l0.length : Int) - 1))).toList then (if t109 = true then (if (wrap64 ((l0.length : Int) - 1)) ≤ (l0.length : Int) then ((credenzaref2_SameTexts.f t108 (l0.take ((wrap64 ((l0.length : Int) - 1)) : Int).toNat)).bind fun t114 => (if t114 = true then ((name_Less.f a1 a2).bind fun t115 => (if (t115 == (Op.bytesLess a1.toList a2.toList)) = true then ((name_Less.f a1 a1).bind fun t116 => (if t116 = true then (some false) else ((credenzalaw9_awake.f).bind fun t117 => (some t117)))) else (some false))) else (some false))) else (none)) else (some false)) else (some false)) else (none)) else (none)) else (some false)) else (some false)) = some r := H
                      have A24 := Aside0.mk A240
                      clear A240
                      by_cases c25 : t107 = true
                      · subst c25
                        have H1 : (if x12_19.toList = t102.toList then (if 0 ≤ (wrap64 ((l0.length : Int) - 1)) then (if (wrap64 ((l0.length : Int) - 1)) < (l0.length : Int) then (if t106.toList = (rdOf ByteArray.empty l0 (wrap64 ((l0.length : Int) - 1))).toList then (if t109 = true then (if (wrap64 ((l0.length : Int) - 1)) ≤ (l0.length : Int) then ((credenzaref2_SameTexts.f t108 (l0.take ((wrap64 ((l0.length : Int) - 1)) : Int).toNat)).bind fun t114 => (if t114 = true then ((name_Less.f a1 a2).bind fun t115 => (if (t115 == (Op.bytesLess a1.toList a2.toList)) = true then ((name_Less.f a1 a1).bind fun t116 => (if t116 = true then (some false) else ((credenzalaw9_awake.f).bind fun t117 => (some t117)))) else (some false))) else (some false))) else (none)) else (some false)) else (some false)) else (none)) else (none)) else (some false)) = some r := by rw [if_pos rfl] at H; exact H
                        clear H
                        have H := H1
                        clear H1
                        by_cases c26 : x12_19.toList = t102.toList
                        · rw [if_pos c26] at H
                          have c26b0 : (x12_19.toList == t102.toList) = true := beq_iff_eq.mpr c26
                          have c26b1 : (x12_19.toList != t102.toList) = false := bne_eq_false_iff_eq.mpr c26
                          clear c26
                          obtain ⟨ji27, hji27⟩ : ∃ j_ : Int, (wrap64 ((l0.length : Int) - 1)) = j_ := ⟨_, rfl⟩
                          replace H : (if 0 ≤ (ji27) then (if (ji27) < (l0.length : Int) then (if t106.toList = (rdOf ByteArray.empty l0 (ji27)).toList then (if t109 = true then (if (ji27) ≤ (l0.length : Int) then ((credenzaref2_SameTexts.f t108 (l0.take ((ji27) : Int).toNat)).bind fun t114 => (if t114 = true then ((name_Less.f a1 a2).bind fun t115 => (if (t115 == (Op.bytesLess a1.toList a2.toList)) = true then ((name_Less.f a1 a1).bind fun t116 => (if t116 = true then (some false) else ((credenzalaw9_awake.f).bind fun t117 => (some t117)))) else (some false))) else (some false))) else (none)) else (some false)) else (some false)) else (none)) else (none)) = some r := by first | (rw [hji27] at H; exact H) | (simp only [hji27] at H ⊢; exact H)
                          (try rw [hji27] at A24)
                          have hji27w : (IntKind.i64.wrap ((l0.length : Int) - 1)) = ji27 := (i64_w _).trans hji27
                          by_cases c28 : 0 ≤ (ji27)
                          · rw [if_pos c28] at H
                            have c28b0 : decide (0 ≤ (ji27)) = true := decide_eq_true c28
                            clear c28
                            by_cases c29 : (ji27) < (l0.length : Int)
                            · rw [if_pos c29] at H
                              have c29b0 : decide ((ji27) < (l0.length : Int)) = true := decide_eq_true c29
                              clear c29
                              by_cases c30 : t106.toList = (rdOf ByteArray.empty l0 (ji27)).toList
                              · rw [if_pos c30] at H
                                have c30b0 : (t106.toList == (rdOf ByteArray.empty l0 (ji27)).toList) = true := beq_iff_eq.mpr c30
                                have c30b1 : (t106.toList != (rdOf ByteArray.empty l0 (ji27)).toList) = false := bne_eq_false_iff_eq.mpr c30
                                clear c30
                                by_cases c31 : t109 = true
                                · subst c31
                                  have H1 : (if (ji27) ≤ (l0.length : Int) then ((credenzaref2_SameTexts.f t108 (l0.take ((ji27) : Int).toNat)).bind fun t114 => (if t114 = true then ((name_Less.f a1 a2).bind fun t115 => (if (t115 == (Op.bytesLess a1.toList a2.toList)) = true then ((name_Less.f a1 a1).bind fun t116 => (if t116 = true then (some false) else ((credenzalaw9_awake.f).bind fun t117 => (some t117)))) else (some false))) else (some false))) else (none)) = some r := by rw [if_pos rfl] at H; exact H
                                  clear H
                                  have H := H1
                                  clear H1
                                  have c32b0 := eq_true (of_decide_eq_true (by first | (with_reducible assumption) | assumption) : 0 ≤ (ji27))
                                  by_cases c33 : (ji27) ≤ (l0.length : Int)
                                  · rw [if_pos c33] at H
                                    have c33b0 := eq_true c33
                                    have c33b1 : decide ((ji27) ≤ (l0.length : Int)) = true := decide_eq_true c33
                                    clear c33
                                    replace H := Option.bind_eq_some_iff.mp H
                                    obtain ⟨t114, A340, H⟩ := H
                                    replace H : (if t114 = true then ((name_Less.f a1 a2).bind fun t115 => (if (t115 == (Op.bytesLess a1.toList a2.toList)) = true then ((name_Less.f a1 a1).bind fun t116 => (if t116 = true then (some false) else ((credenzalaw9_awake.f).bind fun t117 => (some t117)))) else (some false))) else (some false)) = some r := H
                                    have A34 := Aside0.mk A340
                                    clear A340
                                    by_cases c35 : t114 = true
                                    · subst c35
                                      have H1 : ((name_Less.f a1 a2).bind fun t115 => (if (t115 == (Op.bytesLess a1.toList a2.toList)) = true then ((name_Less.f a1 a1).bind fun t116 => (if t116 = true then (some false) else ((credenzalaw9_awake.f).bind fun t117 => (some t117)))) else (some false))) = some r := by rw [if_pos rfl] at H; exact H
                                      clear H
                                      have H := H1
                                      clear H1
                                      replace H := Option.bind_eq_some_iff.mp H
                                      obtain ⟨t115, A360, H⟩ := H
                                      replace H : (if (t115 == (Op.bytesLess a1.toList a2.toList)) = true then ((name_Less.f a1 a1).bind fun t116 => (if t116 = true then (some false) else ((credenzalaw9_awake.f).bind fun t117 => (some t117)))) else (some false)) = some r := H
                                      have A36 := Aside0.mk A360
                                      clear A360
                                      by_cases c37 : (t115 == (Op.bytesLess a1.toList a2.toList)) = true
                                      · rw [if_pos c37] at H
                                        have c37b0 : (t115 == (Op.bytesLess a1.toList a2.toList)) = true := c37
                                        (try (have c37b1 : decide (t115 = (Op.bytesLess a1.toList a2.toList)) = true := by simpa using c37))
                                        (try (have c37b2 : (t115 == (Op.bytesLess a1.toList a2.toList)) = true := by simpa using c37))
                                        clear c37
                                        replace H := Option.bind_eq_some_iff.mp H
                                        obtain ⟨t116, A380, H⟩ := H
                                        replace H : (if t116 = true then (some false) else ((credenzalaw9_awake.f).bind fun t117 => (some t117))) = some r := H
                                        have A38 := Aside0.mk A380
                                        clear A380
                                        by_cases c39 : t116 = true
                                        · subst c39
                                          have H1 : (some false) = some r := by rw [if_pos rfl] at H; exact H
                                          clear H
                                          have H := H1
                                          clear H1
                                          obtain rfl := Option.some.inj H
                                          go_wp2_with (first | ((with_reducible refine gate_callee (f := 12) rfl ?_); refine goesL_ (some 58) rfl rfl Tryd.func12 (by kernel_rfl) rfl #[.string t105] rfl (by (try simp only [List.map_toArray, List.map_cons, List.map_nil]); first | done | rfl | (simp only [List.length_drop, List.length_take]; rfl)) ?_; (with_reducible refine (name_Split.calls t105 t108 true _ A24.out).mono ?_); rintro e w40 ⟨v110, rfl, ho0, hb⟩; refine ⟨_, rfl, ?_⟩; have n0_ := Aside0.mk (Kd.R_lower ho0 (below_size (by repeat (first | (with_reducible first | exact HB.out | apply below_alloc | apply pw_below_drewN | apply below_drew1) | exact HB.out)))); have n1_ := Aside0.mk (below_step (by repeat (first | (with_reducible first | exact HB.out | apply below_alloc | apply pw_below_drewN | apply below_drew1) | exact HB.out)) hb); clear HB; have HO111 := n0_; have HB := n1_; clear n0_ n1_; (try clear hb); (try clear hb2); (try clear hk); (try clear hi); (try clear ho0); have p112 : 0 ≤ ((ji27) : Int) := of_decide_eq_true (by first | (with_reducible assumption) | assumption); have q112 : (ji27) < (l0.length : Int) := of_decide_eq_true (by first | (with_reducible assumption) | assumption); obtain ⟨ad112, e112, hx112_0⟩ := Kd.at_string HR0.out (ji27) p112 q112; cases e112; replace hx112_0 := (HB.out.cell (World.block_lt_of_cell? w _ hx112_0)).trans hx112_0; replace p112 := eq_true p112; replace q112 := eq_true q112; obtain ⟨i041, hi041, _, hsz41, _⟩ := info_parts info9; obtain ⟨hcut41, hA41, hC41⟩ := print_take_of (P := Tryd.prog) Value.string (⟨#[]⟩ : ByteArray) 22 9 .i64 Tryd.underlying22 hi041 hsz41 (some ad112) c0 l0 (ji27) (of_decide_eq_true (by first | (with_reducible assumption) | assumption)) (of_decide_eq_true (by first | (with_reducible assumption) | assumption)) HC0.out; have HR113 := Aside0.mk (Kd.C_of_reads (h1 := fun _ => rfl) (hA41 _ (Kd.reads_of_C HR0.out))); have HC113 := Aside0.mk hC41; clear hA41 hC41 hi041 hsz41; obtain ⟨Ao42, co42, eo42⟩ := Kd.R_slice HO111.out; subst eo42) | (go_at_call 14; (with_reducible refine (credenzaref2_SameTexts.callsN _ _ t108 _ _ (l0.take ((ji27) : Int).toNat) true _ ?side1 ?side2 ?side3 ?side4 A34.out _ ?side5).mono ?_); (case side5 => (rw [List.length_take]; simp only [decide_eq_true_eq] at *; omega)); (case side1 => repeat (first | exact (Kd.R_reads' HO111.out).2.2 | (with_reducible refine Kd.C_alloc ?_ _) | (with_reducible refine Kd.C_drewN ?_ _) | (with_reducible refine Kd.C_drew ?_))); (case side2 => exact (Kd.R_reads' HO111.out).2.1); (case side3 => repeat (first | exact (Kd.C_below HR113.out HB.out) | (with_reducible refine Kd.C_alloc ?_ _) | (with_reducible refine Kd.C_drewN ?_ _) | (with_reducible refine Kd.C_drew ?_))); (case side4 => exact HC113.out); rintro e w' ⟨rfl, ⟨nd, rfl⟩⟩) | (go_at_call 18; (with_reducible refine (name_Less.calls a1 a2 t115 _ A36.out).mono ?_); rintro e w' ⟨rfl, ⟨nd, rfl⟩⟩) | (go_at_call 18; (with_reducible refine (name_Less.calls a1 a1 true _ A38.out).mono ?_); rintro e w' ⟨rfl, ⟨nd, rfl⟩⟩))
                                          go_ret
                                          exact ⟨by first | rfl | (simp [errW_none, errW_some] <;> rfl) | (simp only [← hji27]; first | rfl | (simp [errW_none, errW_some] <;> rfl)) | (simp [*, errW_none, errW_some] <;> rfl), by repeat (first | (with_reducible first | exact HB.out | apply below_alloc | apply pw_below_drewN | apply below_drew1) | exact HB.out)⟩
                                        · replace c39 := Bool.eq_false_iff.mpr c39
                                          subst c39
                                          have H1 : ((credenzalaw9_awake.f).bind fun t117 => (some t117)) = some r := by rw [if_neg (show ¬ (false = true) by decide)] at H; exact H
                                          clear H
                                          have H := H1
                                          clear H1
                                          replace H := Option.bind_eq_some_iff.mp H
                                          obtain ⟨t117, A430, H⟩ := H
                                          replace H : (some t117) = some r := H
                                          have A43 := Aside0.mk A430
                                          clear A430
                                          obtain rfl := Option.some.inj H
                                          go_wp2_with (first | ((with_reducible refine gate_callee (f := 12) rfl ?_); refine goesL_ (some 58) rfl rfl Tryd.func12 (by kernel_rfl) rfl #[.string t105] rfl (by (try simp only [List.map_toArray, List.map_cons, List.map_nil]); first | done | rfl | (simp only [List.length_drop, List.length_take]; rfl)) ?_; (with_reducible refine (name_Split.calls t105 t108 true _ A24.out).mono ?_); rintro e w44 ⟨v110, rfl, ho0, hb⟩; refine ⟨_, rfl, ?_⟩; have n0_ := Aside0.mk (Kd.R_lower ho0 (below_size (by repeat (first | (with_reducible first | exact HB.out | apply below_alloc | apply pw_below_drewN | apply below_drew1) | exact HB.out)))); have n1_ := Aside0.mk (below_step (by repeat (first | (with_reducible first | exact HB.out | apply below_alloc | apply pw_below_drewN | apply below_drew1) | exact HB.out)) hb); clear HB; have HO111 := n0_; have HB := n1_; clear n0_ n1_; (try clear hb); (try clear hb2); (try clear hk); (try clear hi); (try clear ho0); have p112 : 0 ≤ ((ji27) : Int) := of_decide_eq_true (by first | (with_reducible assumption) | assumption); have q112 : (ji27) < (l0.length : Int) := of_decide_eq_true (by first | (with_reducible assumption) | assumption); obtain ⟨ad112, e112, hx112_0⟩ := Kd.at_string HR0.out (ji27) p112 q112; cases e112; replace hx112_0 := (HB.out.cell (World.block_lt_of_cell? w _ hx112_0)).trans hx112_0; replace p112 := eq_true p112; replace q112 := eq_true q112; obtain ⟨i045, hi045, _, hsz45, _⟩ := info_parts info9; obtain ⟨hcut45, hA45, hC45⟩ := print_take_of (P := Tryd.prog) Value.string (⟨#[]⟩ : ByteArray) 22 9 .i64 Tryd.underlying22 hi045 hsz45 (some ad112) c0 l0 (ji27) (of_decide_eq_true (by first | (with_reducible assumption) | assumption)) (of_decide_eq_true (by first | (with_reducible assumption) | assumption)) HC0.out; have HR113 := Aside0.mk (Kd.C_of_reads (h1 := fun _ => rfl) (hA45 _ (Kd.reads_of_C HR0.out))); have HC113 := Aside0.mk hC45; clear hA45 hC45 hi045 hsz45; obtain ⟨Ao46, co46, eo46⟩ := Kd.R_slice HO111.out; subst eo46) | (go_at_call 14; (with_reducible refine (credenzaref2_SameTexts.callsN _ _ t108 _ _ (l0.take ((ji27) : Int).toNat) true _ ?side1 ?side2 ?side3 ?side4 A34.out _ ?side5).mono ?_); (case side5 => (rw [List.length_take]; simp only [decide_eq_true_eq] at *; omega)); (case side1 => repeat (first | exact (Kd.R_reads' HO111.out).2.2 | (with_reducible refine Kd.C_alloc ?_ _) | (with_reducible refine Kd.C_drewN ?_ _) | (with_reducible refine Kd.C_drew ?_))); (case side2 => exact (Kd.R_reads' HO111.out).2.1); (case side3 => repeat (first | exact (Kd.C_below HR113.out HB.out) | (with_reducible refine Kd.C_alloc ?_ _) | (with_reducible refine Kd.C_drewN ?_ _) | (with_reducible refine Kd.C_drew ?_))); (case side4 => exact HC113.out); rintro e w' ⟨rfl, ⟨nd, rfl⟩⟩) | (go_at_call 18; (with_reducible refine (name_Less.calls a1 a2 t115 _ A36.out).mono ?_); rintro e w' ⟨rfl, ⟨nd, rfl⟩⟩) | (go_at_call 18; (with_reducible refine (name_Less.calls a1 a1 false _ A38.out).mono ?_); rintro e w' ⟨rfl, ⟨nd, rfl⟩⟩) | (go_at_call 10; (with_reducible refine (credenzalaw9_awake.calls  t117 _ A43.out).mono ?_); rintro e w47 ⟨rfl, hb⟩; have n0_ := Aside0.mk (Kd.R_below (by (with_reducible repeat (first | apply Kd.R_alloc | apply Kd.R_drewN | apply Kd.R_drew)); exact HO111.out) hb); have n1_ := Aside0.mk (below_step (by repeat (first | (with_reducible first | exact HB.out | apply below_alloc | apply pw_below_drewN | apply below_drew1) | exact HB.out)) hb); clear HO111; clear HB; have HO111 := n0_; have HB := n1_; clear n0_ n1_; (try clear hb); (try clear hb2); (try clear hk); (try clear hi)))
                                          go_ret
                                          exact ⟨by first | rfl | (simp [errW_none, errW_some] <;> rfl) | (simp only [← hji27]; first | rfl | (simp [errW_none, errW_some] <;> rfl)) | (simp [*, errW_none, errW_some] <;> rfl), by repeat (first | (with_reducible first | exact HB.out | apply below_alloc | apply pw_below_drewN | apply below_drew1) | exact HB.out)⟩
                                      · rw [if_neg c37] at H
                                        have c37b0 : (t115 == (Op.bytesLess a1.toList a2.toList)) = false := by simpa using c37
                                        (try (have c37b1 : decide (t115 = (Op.bytesLess a1.toList a2.toList)) = false := by simpa using c37))
                                        (try (have c37b2 : (t115 == (Op.bytesLess a1.toList a2.toList)) = false := by simpa using c37))
                                        (try (have c37b3 : ¬ (t115 = (Op.bytesLess a1.toList a2.toList)) := by simpa using c37))
                                        clear c37
                                        obtain rfl := Option.some.inj H
                                        go_wp2_with (first | ((with_reducible refine gate_callee (f := 12) rfl ?_); refine goesL_ (some 58) rfl rfl Tryd.func12 (by kernel_rfl) rfl #[.string t105] rfl (by (try simp only [List.map_toArray, List.map_cons, List.map_nil]); first | done | rfl | (simp only [List.length_drop, List.length_take]; rfl)) ?_; (with_reducible refine (name_Split.calls t105 t108 true _ A24.out).mono ?_); rintro e w48 ⟨v110, rfl, ho0, hb⟩; refine ⟨_, rfl, ?_⟩; have n0_ := Aside0.mk (Kd.R_lower ho0 (below_size (by repeat (first | (with_reducible first | exact HB.out | apply below_alloc | apply pw_below_drewN | apply below_drew1) | exact HB.out)))); have n1_ := Aside0.mk (below_step (by repeat (first | (with_reducible first | exact HB.out | apply below_alloc | apply pw_below_drewN | apply below_drew1) | exact HB.out)) hb); clear HB; have HO111 := n0_; have HB := n1_; clear n0_ n1_; (try clear hb); (try clear hb2); (try clear hk); (try clear hi); (try clear ho0); have p112 : 0 ≤ ((ji27) : Int) := of_decide_eq_true (by first | (with_reducible assumption) | assumption); have q112 : (ji27) < (l0.length : Int) := of_decide_eq_true (by first | (with_reducible assumption) | assumption); obtain ⟨ad112, e112, hx112_0⟩ := Kd.at_string HR0.out (ji27) p112 q112; cases e112; replace hx112_0 := (HB.out.cell (World.block_lt_of_cell? w _ hx112_0)).trans hx112_0; replace p112 := eq_true p112; replace q112 := eq_true q112; obtain ⟨i049, hi049, _, hsz49, _⟩ := info_parts info9; obtain ⟨hcut49, hA49, hC49⟩ := print_take_of (P := Tryd.prog) Value.string (⟨#[]⟩ : ByteArray) 22 9 .i64 Tryd.underlying22 hi049 hsz49 (some ad112) c0 l0 (ji27) (of_decide_eq_true (by first | (with_reducible assumption) | assumption)) (of_decide_eq_true (by first | (with_reducible assumption) | assumption)) HC0.out; have HR113 := Aside0.mk (Kd.C_of_reads (h1 := fun _ => rfl) (hA49 _ (Kd.reads_of_C HR0.out))); have HC113 := Aside0.mk hC49; clear hA49 hC49 hi049 hsz49; obtain ⟨Ao50, co50, eo50⟩ := Kd.R_slice HO111.out; subst eo50) | (go_at_call 14; (with_reducible refine (credenzaref2_SameTexts.callsN _ _ t108 _ _ (l0.take ((ji27) : Int).toNat) true _ ?side1 ?side2 ?side3 ?side4 A34.out _ ?side5).mono ?_); (case side5 => (rw [List.length_take]; simp only [decide_eq_true_eq] at *; omega)); (case side1 => repeat (first | exact (Kd.R_reads' HO111.out).2.2 | (with_reducible refine Kd.C_alloc ?_ _) | (with_reducible refine Kd.C_drewN ?_ _) | (with_reducible refine Kd.C_drew ?_))); (case side2 => exact (Kd.R_reads' HO111.out).2.1); (case side3 => repeat (first | exact (Kd.C_below HR113.out HB.out) | (with_reducible refine Kd.C_alloc ?_ _) | (with_reducible refine Kd.C_drewN ?_ _) | (with_reducible refine Kd.C_drew ?_))); (case side4 => exact HC113.out); rintro e w' ⟨rfl, ⟨nd, rfl⟩⟩) | (go_at_call 18; (with_reducible refine (name_Less.calls a1 a2 t115 _ A36.out).mono ?_); rintro e w' ⟨rfl, ⟨nd, rfl⟩⟩))
                                        go_ret
                                        exact ⟨by first | rfl | (simp [errW_none, errW_some] <;> rfl) | (simp only [← hji27]; first | rfl | (simp [errW_none, errW_some] <;> rfl)) | (simp [*, errW_none, errW_some] <;> rfl), by repeat (first | (with_reducible first | exact HB.out | apply below_alloc | apply pw_below_drewN | apply below_drew1) | exact HB.out)⟩
                                    · replace c35 := Bool.eq_false_iff.mpr c35
                                      subst c35
                                      have H1 : (some false) = some r := by rw [if_neg (show ¬ (false = true) by decide)] at H; exact H
                                      clear H
                                      have H := H1
                                      clear H1
                                      obtain rfl := Option.some.inj H
                                      go_wp2_with (first | ((with_reducible refine gate_callee (f := 12) rfl ?_); refine goesL_ (some 58) rfl rfl Tryd.func12 (by kernel_rfl) rfl #[.string t105] rfl (by (try simp only [List.map_toArray, List.map_cons, List.map_nil]); first | done | rfl | (simp only [List.length_drop, List.length_take]; rfl)) ?_; (with_reducible refine (name_Split.calls t105 t108 true _ A24.out).mono ?_); rintro e w51 ⟨v110, rfl, ho0, hb⟩; refine ⟨_, rfl, ?_⟩; have n0_ := Aside0.mk (Kd.R_lower ho0 (below_size (by repeat (first | (with_reducible first | exact HB.out | apply below_alloc | apply pw_below_drewN | apply below_drew1) | exact HB.out)))); have n1_ := Aside0.mk (below_step (by repeat (first | (with_reducible first | exact HB.out | apply below_alloc | apply pw_below_drewN | apply below_drew1) | exact HB.out)) hb); clear HB; have HO111 := n0_; have HB := n1_; clear n0_ n1_; (try clear hb); (try clear hb2); (try clear hk); (try clear hi); (try clear ho0); have p112 : 0 ≤ ((ji27) : Int) := of_decide_eq_true (by first | (with_reducible assumption) | assumption); have q112 : (ji27) < (l0.length : Int) := of_decide_eq_true (by first | (with_reducible assumption) | assumption); obtain ⟨ad112, e112, hx112_0⟩ := Kd.at_string HR0.out (ji27) p112 q112; cases e112; replace hx112_0 := (HB.out.cell (World.block_lt_of_cell? w _ hx112_0)).trans hx112_0; replace p112 := eq_true p112; replace q112 := eq_true q112; obtain ⟨i052, hi052, _, hsz52, _⟩ := info_parts info9; obtain ⟨hcut52, hA52, hC52⟩ := print_take_of (P := Tryd.prog) Value.string (⟨#[]⟩ : ByteArray) 22 9 .i64 Tryd.underlying22 hi052 hsz52 (some ad112) c0 l0 (ji27) (of_decide_eq_true (by first | (with_reducible assumption) | assumption)) (of_decide_eq_true (by first | (with_reducible assumption) | assumption)) HC0.out; have HR113 := Aside0.mk (Kd.C_of_reads (h1 := fun _ => rfl) (hA52 _ (Kd.reads_of_C HR0.out))); have HC113 := Aside0.mk hC52; clear hA52 hC52 hi052 hsz52; obtain ⟨Ao53, co53, eo53⟩ := Kd.R_slice HO111.out; subst eo53) | (go_at_call 14; (with_reducible refine (credenzaref2_SameTexts.callsN _ _ t108 _ _ (l0.take ((ji27) : Int).toNat) false _ ?side1 ?side2 ?side3 ?side4 A34.out _ ?side5).mono ?_); (case side5 => (rw [List.length_take]; simp only [decide_eq_true_eq] at *; omega)); (case side1 => repeat (first | exact (Kd.R_reads' HO111.out).2.2 | (with_reducible refine Kd.C_alloc ?_ _) | (with_reducible refine Kd.C_drewN ?_ _) | (with_reducible refine Kd.C_drew ?_))); (case side2 => exact (Kd.R_reads' HO111.out).2.1); (case side3 => repeat (first | exact (Kd.C_below HR113.out HB.out) | (with_reducible refine Kd.C_alloc ?_ _) | (with_reducible refine Kd.C_drewN ?_ _) | (with_reducible refine Kd.C_drew ?_))); (case side4 => exact HC113.out); rintro e w' ⟨rfl, ⟨nd, rfl⟩⟩))
                                      go_ret
                                      exact ⟨by first | rfl | (simp [errW_none, errW_some] <;> rfl) | (simp only [← hji27]; first | rfl | (simp [errW_none, errW_some] <;> rfl)) | (simp [*, errW_none, errW_some] <;> rfl), by repeat (first | (with_reducible first | exact HB.out | apply below_alloc | apply pw_below_drewN | apply below_drew1) | exact HB.out)⟩
                                  · rw [if_neg c33] at H
                                    exact absurd H (by simp)
                                · replace c31 := Bool.eq_false_iff.mpr c31
                                  subst c31
                                  have H1 : (some false) = some r := by rw [if_neg (show ¬ (false = true) by decide)] at H; exact H
                                  clear H
                                  have H := H1
                                  clear H1
                                  obtain rfl := Option.some.inj H
                                  go_wp2_with (first | ((with_reducible refine gate_callee (f := 12) rfl ?_); refine goesL_ (some 58) rfl rfl Tryd.func12 (by kernel_rfl) rfl #[.string t105] rfl (by (try simp only [List.map_toArray, List.map_cons, List.map_nil]); first | done | rfl | (simp only [List.length_drop, List.length_take]; rfl)) ?_; (with_reducible refine (name_Split.calls t105 t108 false _ A24.out).mono ?_); rintro e w54 ⟨v110, rfl, ho0, hb⟩; refine ⟨_, rfl, ?_⟩; have n0_ := Aside0.mk (Kd.R_lower ho0 (below_size (by repeat (first | (with_reducible first | exact HB.out | apply below_alloc | apply pw_below_drewN | apply below_drew1) | exact HB.out)))); have n1_ := Aside0.mk (below_step (by repeat (first | (with_reducible first | exact HB.out | apply below_alloc | apply pw_below_drewN | apply below_drew1) | exact HB.out)) hb); clear HB; have HO111 := n0_; have HB := n1_; clear n0_ n1_; (try clear hb); (try clear hb2); (try clear hk); (try clear hi); (try clear ho0); have p112 : 0 ≤ ((ji27) : Int) := of_decide_eq_true (by first | (with_reducible assumption) | assumption); have q112 : (ji27) < (l0.length : Int) := of_decide_eq_true (by first | (with_reducible assumption) | assumption); obtain ⟨ad112, e112, hx112_0⟩ := Kd.at_string HR0.out (ji27) p112 q112; cases e112; replace hx112_0 := (HB.out.cell (World.block_lt_of_cell? w _ hx112_0)).trans hx112_0; replace p112 := eq_true p112; replace q112 := eq_true q112))
                                  go_ret
                                  exact ⟨by first | rfl | (simp [errW_none, errW_some] <;> rfl) | (simp only [← hji27]; first | rfl | (simp [errW_none, errW_some] <;> rfl)) | (simp [*, errW_none, errW_some] <;> rfl), by repeat (first | (with_reducible first | exact HB.out | apply below_alloc | apply pw_below_drewN | apply below_drew1) | exact HB.out)⟩
                              · rw [if_neg c30] at H
                                have c30b0 : (t106.toList == (rdOf ByteArray.empty l0 (ji27)).toList) = false := beq_eq_false_iff_ne.mpr c30
                                have c30b1 : (t106.toList != (rdOf ByteArray.empty l0 (ji27)).toList) = true := bne_iff_ne.mpr c30
                                obtain rfl := Option.some.inj H
                                go_wp2_with (first | ((with_reducible refine gate_callee (f := 12) rfl ?_); refine goesL_ (some 58) rfl rfl Tryd.func12 (by kernel_rfl) rfl #[.string t105] rfl (by (try simp only [List.map_toArray, List.map_cons, List.map_nil]); first | done | rfl | (simp only [List.length_drop, List.length_take]; rfl)) ?_; (with_reducible refine (name_Split.calls t105 t108 t109 _ A24.out).mono ?_); rintro e w55 ⟨v110, rfl, ho0, hb⟩; refine ⟨_, rfl, ?_⟩; have n0_ := Aside0.mk (Kd.R_lower ho0 (below_size (by repeat (first | (with_reducible first | exact HB.out | apply below_alloc | apply pw_below_drewN | apply below_drew1) | exact HB.out)))); have n1_ := Aside0.mk (below_step (by repeat (first | (with_reducible first | exact HB.out | apply below_alloc | apply pw_below_drewN | apply below_drew1) | exact HB.out)) hb); clear HB; have HO111 := n0_; have HB := n1_; clear n0_ n1_; (try clear hb); (try clear hb2); (try clear hk); (try clear hi); (try clear ho0); have p112 : 0 ≤ ((ji27) : Int) := of_decide_eq_true (by first | (with_reducible assumption) | assumption); have q112 : (ji27) < (l0.length : Int) := of_decide_eq_true (by first | (with_reducible assumption) | assumption); obtain ⟨ad112, e112, hx112_0⟩ := Kd.at_string HR0.out (ji27) p112 q112; cases e112; replace hx112_0 := (HB.out.cell (World.block_lt_of_cell? w _ hx112_0)).trans hx112_0; replace p112 := eq_true p112; replace q112 := eq_true q112))
                                go_ret
                                exact ⟨by first | rfl | (simp [errW_none, errW_some] <;> rfl) | (simp only [← hji27]; first | rfl | (simp [errW_none, errW_some] <;> rfl)) | (simp [*, errW_none, errW_some] <;> rfl), by repeat (first | (with_reducible first | exact HB.out | apply below_alloc | apply pw_below_drewN | apply below_drew1) | exact HB.out)⟩
                            · rw [if_neg c29] at H
                              exact absurd H (by simp)
                          · rw [if_neg c28] at H
                            exact absurd H (by simp)
                        · rw [if_neg c26] at H
                          have c26b0 : (x12_19.toList == t102.toList) = false := beq_eq_false_iff_ne.mpr c26
                          have c26b1 : (x12_19.toList != t102.toList) = true := bne_iff_ne.mpr c26
                          obtain rfl := Option.some.inj H
                          go_wp2_with (first | ((with_reducible refine gate_callee (f := 12) rfl ?_); refine goesL_ (some 58) rfl rfl Tryd.func12 (by kernel_rfl) rfl #[.string t105] rfl (by (try simp only [List.map_toArray, List.map_cons, List.map_nil]); first | done | rfl | (simp only [List.length_drop, List.length_take]; rfl)) ?_; (with_reducible refine (name_Split.calls t105 t108 t109 _ A24.out).mono ?_); rintro e w56 ⟨v110, rfl, ho0, hb⟩; refine ⟨_, rfl, ?_⟩; have n0_ := Aside0.mk (Kd.R_lower ho0 (below_size (by repeat (first | (with_reducible first | exact HB.out | apply below_alloc | apply pw_below_drewN | apply below_drew1) | exact HB.out)))); have n1_ := Aside0.mk (below_step (by repeat (first | (with_reducible first | exact HB.out | apply below_alloc | apply pw_below_drewN | apply below_drew1) | exact HB.out)) hb); clear HB; have HO111 := n0_; have HB := n1_; clear n0_ n1_; (try clear hb); (try clear hb2); (try clear hk); (try clear hi); (try clear ho0)))
                          go_ret
                          exact ⟨by first | rfl | (simp [errW_none, errW_some] <;> rfl) | (simp [*, errW_none, errW_some] <;> rfl), by repeat (first | (with_reducible first | exact HB.out | apply below_alloc | apply pw_below_drewN | apply below_drew1) | exact HB.out)⟩
                      · replace c25 := Bool.eq_false_iff.mpr c25
                        subst c25
                        have H1 : (some false) = some r := by rw [if_neg (show ¬ (false = true) by decide)] at H; exact H
                        clear H
                        have H := H1
                        clear H1
                        obtain rfl := Option.some.inj H
                        go_wp2_with (first | ((with_reducible refine gate_callee (f := 12) rfl ?_); refine goesL_ (some 58) rfl rfl Tryd.func12 (by kernel_rfl) rfl #[.string t105] rfl (by (try simp only [List.map_toArray, List.map_cons, List.map_nil]); first | done | rfl | (simp only [List.length_drop, List.length_take]; rfl)) ?_; (with_reducible refine (name_Split.calls t105 t108 t109 _ A24.out).mono ?_); rintro e w57 ⟨v110, rfl, ho0, hb⟩; refine ⟨_, rfl, ?_⟩; have n0_ := Aside0.mk (Kd.R_lower ho0 (below_size (by repeat (first | (with_reducible first | exact HB.out | apply below_alloc | apply pw_below_drewN | apply below_drew1) | exact HB.out)))); have n1_ := Aside0.mk (below_step (by repeat (first | (with_reducible first | exact HB.out | apply below_alloc | apply pw_below_drewN | apply below_drew1) | exact HB.out)) hb); clear HB; have HO111 := n0_; have HB := n1_; clear n0_ n1_; (try clear hb); (try clear hb2); (try clear hk); (try clear hi); (try clear ho0)))
                        go_ret
                        exact ⟨by first | rfl | (simp [errW_none, errW_some] <;> rfl) | (simp [*, errW_none, errW_some] <;> rfl), by repeat (first | (with_reducible first | exact HB.out | apply below_alloc | apply pw_below_drewN | apply below_drew1) | exact HB.out)⟩
                · rw [if_neg c19] at H
                  exact absurd H (by simp)
              · rw [if_neg c18] at H
                exact absurd H (by simp)

end Go.Proofs.YtpalgkfilpkgeaaDoor.PNameParents

-- Laid by a program of this session out of the translation (the kit's printing program, with some contracts given by hand). Lean checks it.
import Derived.Test.YtpalgkfilpkgeaaDoorPNameDeepx0
namespace Go.Proofs.YtpalgkfilpkgeaaDoor.PNameDeep
open Go.Proofs.YtpalgkfilpkgeaaDoor.Given2 Go.Proofs.YtpalgkfilpkgeaaDoor.Given7 Go.RowKit Go.Proofs.YtpalgkfilpkgeaaDoorW.PrintWords Go.Proofs.YtpalgkfilpkgeaaDoorW.PrintLast Go.Proofs.YtpalgkfilpkgeaaDoorW.PrintMore
attribute [local go_sem] max2_int min2_int max_two min_two max_three min_three max_four min_four   -- for this text's walks alone
set_option linter.unusedVariables false
set_option linter.unusedSimpArgs false

/-! ### credenzalaw9_NameDeep: function 7 -/
mutual
def credenzalaw9_NameDeep.l0 : Nat → Int → ByteArray → Int → Option (Bool)
  | 0, _, _, _ => none
  | k + 1, x0, x3, x4 => if x4 < x0 then (if x3.size + 1 ≤ 9223372036854775807 then ((some (([(97 + ((x4) % 256)) % 256] : List Int) : List Int)).bind fun y101 => (if (x3 ++ (⟨#[47]⟩ : ByteArray)).size + (strOfNums y101).size ≤ 9223372036854775807 then (credenzalaw9_NameDeep.l0 k x0 ((x3 ++ (⟨#[47]⟩ : ByteArray)) ++ (strOfNums y101)) (wrap64 (x4 + 1))) else (none))) else (none)) else (if x0 = 0 then (credenzalaw9_NameDeep.j1 k x0 (⟨#[47]⟩ : ByteArray)) else (credenzalaw9_NameDeep.j1 k x0 x3))
def credenzalaw9_NameDeep.j1 : Nat → Int → ByteArray → Option (Bool)
  | 0, _, _ => none
  | k + 1, x0, x3 => (name_Split.f x3).bind fun bt104 => (if (bt104.2 != (decide (x0 ≤ 6))) = true then (some false) else (if bt104.2 = true then (credenzalaw9_NameDeep.l1 k x3 bt104.1) else (if (bt104.1.length : Int) = 0 then ((credenzalaw9_awake.f).bind fun t108 => (some t108)) else (some false))))
def credenzalaw9_NameDeep.l1 : Nat → ByteArray → List ByteArray → Option (Bool)
  | 0, _, _ => none
  | k + 1, x3, x5 => if (x5.length : Int) > 0 then ((name_Parent.f x3).bind fun bt113 => (if bt113.2.2 = true then (if 0 ≤ (wrap64 ((x5.length : Int) - 1)) then (if (wrap64 ((x5.length : Int) - 1)) < (x5.length : Int) then (if bt113.2.1.toList = (rdOf ByteArray.empty x5 (wrap64 ((x5.length : Int) - 1))).toList then ((name_Within.f x3 bt113.1).bind fun t117 => (if t117 = true then ((name_Within.f bt113.1 x3).bind fun t118 => (credenzalaw9_NameDeep.j3 k x5 bt113.1 t118)) else (credenzalaw9_NameDeep.j3 k x5 bt113.1 true))) else (credenzalaw9_NameDeep.j3 k x5 bt113.1 true)) else (none)) else (none)) else (credenzalaw9_NameDeep.j3 k x5 bt113.1 true))) else ((name_Parent.f (⟨#[47]⟩ : ByteArray)).bind fun bt109 => (if x3.toList = ([47] : List UInt8) then (if bt109.2.2 = true then (some false) else ((credenzalaw9_awake.f).bind fun t112 => (some t112))) else (some false)))
def credenzalaw9_NameDeep.j3 : Nat → List ByteArray → ByteArray → Bool → Option (Bool)
  | 0, _, _, _ => none
  | k + 1, x5, x7, x81 => if x81 = true then (some false) else ((name_Split.f x7).bind fun bt119 => (if bt119.2 = true then (if (bt119.1.length : Int) = (wrap64 ((x5.length : Int) - 1)) then (credenzalaw9_NameDeep.l1 k x7 bt119.1) else (some false)) else (some false)))
end
def credenzalaw9_NameDeep.f (k : Nat) (a0 : Int) : Option (Bool) := credenzalaw9_NameDeep.l0 k (Int.tmod (Go.bits .and .i64 a0 255) 10) (⟨#[]⟩ : ByteArray) 0
theorem credenzalaw9_NameDeep.mono_l : ∀ k, (∀ y0 y1 y2, LeO (credenzalaw9_NameDeep.l0 k y0 y1 y2) (credenzalaw9_NameDeep.l0 (k + 1) y0 y1 y2)) ∧ (∀ y0 y1, LeO (credenzalaw9_NameDeep.j1 k y0 y1) (credenzalaw9_NameDeep.j1 (k + 1) y0 y1)) ∧ (∀ y0 y1, LeO (credenzalaw9_NameDeep.l1 k y0 y1) (credenzalaw9_NameDeep.l1 (k + 1) y0 y1)) ∧ (∀ y0 y1 y2, LeO (credenzalaw9_NameDeep.j3 k y0 y1 y2) (credenzalaw9_NameDeep.j3 (k + 1) y0 y1 y2))
  | 0 => ⟨fun _ _ _ r h => by simp [credenzalaw9_NameDeep.l0] at h, fun _ _ r h => by simp [credenzalaw9_NameDeep.j1] at h, fun _ _ r h => by simp [credenzalaw9_NameDeep.l1] at h, fun _ _ _ r h => by simp [credenzalaw9_NameDeep.j3] at h⟩
  | k + 1 => by
    obtain ⟨ih0, ih1, ih2, ih3⟩ := credenzalaw9_NameDeep.mono_l k
    refine ⟨?_, ?_, ?_, ?_⟩
    · intro y0 y1 y2
      unfold credenzalaw9_NameDeep.l0
      repeat' first
      | (with_reducible exact ih0 _ _ _)
      | (with_reducible exact ih1 _ _)
      | (with_reducible exact ih2 _ _)
      | (with_reducible exact ih3 _ _ _)
      | (with_reducible exact LeO.refl _)
      | (with_reducible exact LeO.none _)
      | (with_reducible refine LeO.ite ?_ ?_)
      | (with_reducible refine LeO.bind ?_ (fun _ => ?_))
      | exact ih0 _ _ _
      | exact ih1 _ _
      | exact ih2 _ _
      | exact ih3 _ _ _
      | exact LeO.none _
      | refine LeO.ite ?_ ?_
      | refine LeO.bind ?_ (fun _ => ?_)
    · intro y0 y1
      unfold credenzalaw9_NameDeep.j1
      repeat' first
      | (with_reducible exact ih0 _ _ _)
      | (with_reducible exact ih1 _ _)
      | (with_reducible exact ih2 _ _)
      | (with_reducible exact ih3 _ _ _)
      | (with_reducible exact LeO.refl _)
      | (with_reducible exact LeO.none _)
      | (with_reducible refine LeO.ite ?_ ?_)
      | (with_reducible refine LeO.bind ?_ (fun _ => ?_))
      | exact ih0 _ _ _
      | exact ih1 _ _
      | exact ih2 _ _
      | exact ih3 _ _ _
      | exact LeO.none _
      | refine LeO.ite ?_ ?_
      | refine LeO.bind ?_ (fun _ => ?_)
    · intro y0 y1
      unfold credenzalaw9_NameDeep.l1
      repeat' first
      | (with_reducible exact ih0 _ _ _)
      | (with_reducible exact ih1 _ _)
      | (with_reducible exact ih2 _ _)
      | (with_reducible exact ih3 _ _ _)
      | (with_reducible exact LeO.refl _)
      | (with_reducible exact LeO.none _)
      | (with_reducible refine LeO.ite ?_ ?_)
      | (with_reducible refine LeO.bind ?_ (fun _ => ?_))
      | exact ih0 _ _ _
      | exact ih1 _ _
      | exact ih2 _ _
      | exact ih3 _ _ _
      | exact LeO.none _
      | refine LeO.ite ?_ ?_
      | refine LeO.bind ?_ (fun _ => ?_)
    · intro y0 y1 y2
      unfold credenzalaw9_NameDeep.j3
      repeat' first
      | (with_reducible exact ih0 _ _ _)
      | (with_reducible exact ih1 _ _)
      | (with_reducible exact ih2 _ _)
      | (with_reducible exact ih3 _ _ _)
      | (with_reducible exact LeO.refl _)
      | (with_reducible exact LeO.none _)
      | (with_reducible refine LeO.ite ?_ ?_)
      | (with_reducible refine LeO.bind ?_ (fun _ => ?_))
      | exact ih0 _ _ _
      | exact ih1 _ _
      | exact ih2 _ _
      | exact ih3 _ _ _
      | exact LeO.none _
      | refine LeO.ite ?_ ?_
      | refine LeO.bind ?_ (fun _ => ?_)
theorem credenzalaw9_NameDeep.mono : ∀ a0 k, LeO (credenzalaw9_NameDeep.f k a0) (credenzalaw9_NameDeep.f (k + 1) a0) := by
  intro a0 k
  obtain ⟨ih0, ih1, ih2, ih3⟩ := credenzalaw9_NameDeep.mono_l k
  unfold credenzalaw9_NameDeep.f
  repeat' first
      | (with_reducible exact ih0 _ _ _)
      | (with_reducible exact ih1 _ _)
      | (with_reducible exact ih2 _ _)
      | (with_reducible exact ih3 _ _ _)
      | (with_reducible exact LeO.refl _)
      | (with_reducible exact LeO.none _)
      | (with_reducible refine LeO.ite ?_ ?_)
      | (with_reducible refine LeO.bind ?_ (fun _ => ?_))
      | exact ih0 _ _ _
      | exact ih1 _ _
      | exact ih2 _ _
      | exact ih3 _ _ _
      | exact LeO.none _
      | refine LeO.ite ?_ ?_
      | refine LeO.bind ?_ (fun _ => ?_)
set_option maxHeartbeats 8000000 in
set_option maxRecDepth 100000 in
theorem credenzalaw9_NameDeep.calls (k : Nat) (a0 : Int) (r : Bool) (w : World) (h : credenzalaw9_NameDeep.f k a0 = some r) :
    Calls Tryd.prog 7 #[.int .i64 a0] w fun e w' => e = .returned (.bool r) ∧ Below w.heap.size w w' := by
  have HB := Aside0.mk (Below.refl w.heap.size w)
  have H : (credenzalaw9_NameDeep.l0 k (Int.tmod (Go.bits .and .i64 a0 255) 10) (⟨#[]⟩ : ByteArray) 0) = some r := h
  clear h
  have H' := Aside0.mk H
  clear H
  go_enter Tryd.func7, Tryd.ntmps7
  go_wp2
  go_loopg [3, 4] k (fun kq v3 v4 w' => ∃ (x3_1 : ByteArray) (x4_1 : Int), v3 = .string x3_1 ∧ v4 = .int .i64 x4_1 ∧ Aside0 (credenzalaw9_NameDeep.l0 kq (Int.tmod (Go.bits .and .i64 a0 255) 10) x3_1 x4_1 = some r) ∧ Aside0 (kq ≤ k) ∧ Aside0 (Below w.heap.size w w'))
  case atStart => exact ⟨((⟨#[]⟩ : ByteArray)), (0), (by first | rfl | (simp; done) | (simp [*]; done)), (by first | rfl | (simp; done) | (simp [*]; done)), H', ⟨Nat.le_refl _⟩, ⟨by repeat (first | (with_reducible first | exact HB.out | apply below_alloc | apply pw_below_drewN | apply below_drew1) | exact HB.out)⟩⟩
  case round =>
    clear H'
    obtain ⟨x3_1, x4_1, rfl, rfl, HA, HK1, HB⟩ := hrel
    cases gk with
    | zero => exact absurd HA.out (by simp [credenzalaw9_NameDeep.l0])
    | succ k1 =>
      have H := HA.out
      clear HA
      simp only [credenzalaw9_NameDeep.l0] at H
      by_cases c2 : x4_1 < (Int.tmod (Go.bits .and .i64 a0 255) 10)
      · rw [if_pos c2] at H
        have c2b0 : decide (x4_1 < (Int.tmod (Go.bits .and .i64 a0 255) 10)) = true := decide_eq_true c2
        clear c2
        by_cases c3 : x3_1.size + 1 ≤ 9223372036854775807
        · rw [if_pos c3] at H
          have c3b0 := eq_true c3
          have c3b1 : decide (x3_1.size + 1 ≤ 9223372036854775807) = true := decide_eq_true c3
          try have c3b2 : (9223372036854775807 < x3_1.size + 1) = False := eq_false (Nat.not_lt.2 c3)
          obtain ⟨y101, hy101⟩ : ∃ y_ : List Int, y_ = (([(97 + ((x4_1) % 256)) % 256] : List Int)) := ⟨_, rfl⟩
          replace H : (if (x3_1 ++ (⟨#[47]⟩ : ByteArray)).size + (strOfNums y101).size ≤ 9223372036854775807 then (credenzalaw9_NameDeep.l0 k1 (Int.tmod (Go.bits .and .i64 a0 255) 10) ((x3_1 ++ (⟨#[47]⟩ : ByteArray)) ++ (strOfNums y101)) (wrap64 (x4_1 + 1))) else (none)) = some r := by first | (rw [hy101]; with_reducible exact H) | (have H2_ := (Option.bind_some _ _).symm.trans H; rw [hy101]; with_reducible exact H2_) | (have H2_ := (Option.bind_some _ _).symm.trans H; with_reducible exact H2_) | with_reducible exact H | (rw [hy101]; exact H) | exact H
          have Ny101 := Aside0.mk hy101
          clear hy101
          by_cases c4 : (x3_1 ++ (⟨#[47]⟩ : ByteArray)).size + (strOfNums y101).size ≤ 9223372036854775807
          · rw [if_pos c4] at H
            have c4b0 := eq_true c4
            have c4b1 : decide ((x3_1 ++ (⟨#[47]⟩ : ByteArray)).size + (strOfNums y101).size ≤ 9223372036854775807) = true := decide_eq_true c4
            try have c4b2 : (9223372036854775807 < (x3_1 ++ (⟨#[47]⟩ : ByteArray)).size + (strOfNums y101).size) = False := eq_false (Nat.not_lt.2 c4)
            have H' := Aside0.mk H
            clear H
            go_wp2_with (first | ((with_reducible refine gate_dst (N := 28) rfl ?_); (try (refine gate_guard (by rfl) ?_; dsimp only)); refine Kd.R_lit (Kd.int .u8) _ 5 ?hg (N := 28) ?hd (xs := ([(97 + ((x4_1) % 256)) % 256] : List Int)) (inner := [.int .u8 ((97 + ((x4_1) % 256)) % 256)]) (ok := fun _ => True) (okp := fun _ => True) ?hr ?hp (fun _ hk => hk) trivial (Below.refl _ _) (Nat.le_refl _) (by simp) ?_; (case hd => rfl); (case hg => rfl); (case hr => first | (go_simp; done) | (go_simp; rfl)); (case hp => exact (Reps.one (show Kd.M (Kd.int .u8) _ _ _ ((97 + ((x4_1) % 256)) % 256) [.int .u8 ((97 + ((x4_1) % 256)) % 256)] from rfl) (Reps.none _ _))); intro v102 w5 ho6 hb hg_ hnew_; clear hg_ hnew_; (first | rw [← Ny101.out] at ho6 | (simp only [Int.reduceToNat] at ho6; rw [← Ny101.out] at ho6)); have n0_ := Aside0.mk (Kd.R_lower ho6 (below_size (by repeat (first | (with_reducible first | exact HB.out | apply below_alloc | apply pw_below_drewN | apply below_drew1) | exact HB.out)))); have n1_ := Aside0.mk (below_step (by repeat (first | (with_reducible first | exact HB.out | apply below_alloc | apply pw_below_drewN | apply below_drew1) | exact HB.out)) hb); clear HB; have HO103 := n0_; have HB := n1_; clear n0_ n1_; clear hb ho6; have hcv7 := own_string (P := Tryd.prog) Tryd.underlying31 Tryd.underlying5 Tryd.underlying9 (Kd.own_of_R HO103.out)))
            go_roundg k1
            case measure => have := HK1.out; omega
            case rel => exact ⟨((x3_1 ++ (⟨#[47]⟩ : ByteArray)) ++ (strOfNums y101)), (wrap64 (x4_1 + 1)), (by first | rfl | (simp; done) | (simp [*]; done)), (by first | rfl | (simp; done) | (simp [*]; done)), H', ⟨by have := HK1.out; omega⟩, ⟨by repeat (first | (with_reducible first | exact HB.out | apply below_alloc | apply pw_below_drewN | apply below_drew1) | exact HB.out)⟩⟩
          · rw [if_neg c4] at H
            exact absurd H (by simp)
        · rw [if_neg c3] at H
          exact absurd H (by simp)
      · rw [if_neg c2] at H
        have c2b0 : decide (x4_1 < (Int.tmod (Go.bits .and .i64 a0 255) 10)) = false := decide_eq_false c2
        clear c2
        have HC8 := Aside0.mk H
        clear H
        go_upto_if 32 with (fail)
        go_cut [3] (fun v3 wc => ∃ (kq : Nat) (x3_7 : ByteArray), v3 = .string x3_7 ∧ Aside0 (credenzalaw9_NameDeep.j1 kq (Int.tmod (Go.bits .and .i64 a0 255) 10) x3_7 = some r) ∧ Aside0 (kq ≤ k1) ∧ Aside0 (Below w.heap.size w wc))
        case first =>
          have H := HC8.out
          clear HC8
          by_cases c9 : (Int.tmod (Go.bits .and .i64 a0 255) 10) = 0
          · rw [if_pos c9] at H
            have c9b0 : ((Int.tmod (Go.bits .and .i64 a0 255) 10) == 0) = true := beq_iff_eq.mpr c9
            have c9b1 : ((Int.tmod (Go.bits .and .i64 a0 255) 10) != 0) = false := bne_eq_false_iff_eq.mpr c9
            clear c9
            (first | rw [c9b0] | (simp only [i64_w, i32_w]; rw [c9b0]) | skip)
            have H' := Aside0.mk H
            clear H
            go_wp2
            go_meet
            case rel => exact ⟨_, ((⟨#[47]⟩ : ByteArray)), (by first | rfl | (simp; done) | (simp [*]; done)), H', ⟨by have := HK1.out; first | omega | exact Nat.le_refl _⟩, ⟨by repeat (first | (with_reducible first | exact HB.out | apply below_alloc | apply pw_below_drewN | apply below_drew1) | exact HB.out)⟩⟩
          · rw [if_neg c9] at H
            have c9b0 : ((Int.tmod (Go.bits .and .i64 a0 255) 10) == 0) = false := beq_eq_false_iff_ne.mpr c9
            have c9b1 : ((Int.tmod (Go.bits .and .i64 a0 255) 10) != 0) = true := bne_iff_ne.mpr c9
            (first | rw [c9b0] | (simp only [i64_w, i32_w]; rw [c9b0]) | skip)
            have H' := Aside0.mk H
            clear H
            go_wp2
            go_meet
            case rel => exact ⟨_, (x3_1), (by first | rfl | (simp; done) | (simp [*]; done)), H', ⟨by have := HK1.out; first | omega | exact Nat.le_refl _⟩, ⟨by repeat (first | (with_reducible first | exact HB.out | apply below_alloc | apply pw_below_drewN | apply below_drew1) | exact HB.out)⟩⟩
        case rest =>
          clear HC8
          try clear c2
          try clear c2b0
          try clear p2
          try clear c3
          try clear c3b0
          try clear c3b1
          try clear c3b2
          try clear c4
          try clear c4b0
          try clear c4b1
          try clear c4b2
          try clear p6
          try clear c7
          try clear hcv7
          try clear c9
          try clear c9b0
          try clear c9b1
          obtain ⟨kq, x3_7, rfl, HA, HJ7, HB⟩ := hcut
          cases kq with
          | zero => exact absurd HA.out (by simp [credenzalaw9_NameDeep.j1])
          | succ kj7 =>
            have H := HA.out
            clear HA
            simp only [credenzalaw9_NameDeep.j1] at H
            replace H := Option.bind_eq_some_iff.mp H
            obtain ⟨⟨t104, t105⟩, A100, H⟩ := H
            replace H : (if (t105 != (decide ((Int.tmod (Go.bits .and .i64 a0 255) 10) ≤ 6))) = true then (some false) else (if t105 = true then (credenzalaw9_NameDeep.l1 kj7 x3_7 t104) else (if (t104.length : Int) = 0 then ((credenzalaw9_awake.f).bind fun t108 => (some t108)) else (some false)))) = some r := H
            have A10 := Aside0.mk A100
            clear A100
            by_cases c11 : (t105 != (decide ((Int.tmod (Go.bits .and .i64 a0 255) 10) ≤ 6))) = true
            · rw [if_pos c11] at H
              have c11b0 : (t105 != (decide ((Int.tmod (Go.bits .and .i64 a0 255) 10) ≤ 6))) = true := c11
              (try (have c11b1 : decide (t105 = (decide ((Int.tmod (Go.bits .and .i64 a0 255) 10) ≤ 6))) = false := by simpa using c11))
              (try (have c11b2 : (t105 == (decide ((Int.tmod (Go.bits .and .i64 a0 255) 10) ≤ 6))) = false := by simpa using c11))
              (try (have c11b3 : ¬ (t105 = (decide ((Int.tmod (Go.bits .and .i64 a0 255) 10) ≤ 6))) := by simpa using c11))
              clear c11
              obtain rfl := Option.some.inj H
              go_wp2_with (first | ((with_reducible refine gate_callee (f := 12) rfl ?_); refine goesL_ (some 35) rfl rfl Tryd.func12 (by kernel_rfl) rfl #[.string x3_7] rfl (by (try simp only [List.map_toArray, List.map_cons, List.map_nil]); first | done | rfl | (simp only [List.length_drop, List.length_take]; rfl)) ?_; (with_reducible refine (name_Split.calls x3_7 t104 t105 _ A10.out).mono ?_); rintro e w12 ⟨v106, rfl, ho0, hb⟩; refine ⟨_, rfl, ?_⟩; have n0_ := Aside0.mk (Kd.R_lower ho0 (below_size (by repeat (first | (with_reducible first | exact HB.out | apply below_alloc | apply pw_below_drewN | apply below_drew1) | exact HB.out)))); have n1_ := Aside0.mk (below_step (by repeat (first | (with_reducible first | exact HB.out | apply below_alloc | apply pw_below_drewN | apply below_drew1) | exact HB.out)) hb); clear HB; have HO107 := n0_; have HB := n1_; clear n0_ n1_; (try clear hb); (try clear hb2); (try clear hk); (try clear hi); (try clear ho0)))
              go_ret
              exact ⟨by first | rfl | (simp [errW_none, errW_some] <;> rfl) | (simp [*, errW_none, errW_some] <;> rfl), by repeat (first | (with_reducible first | exact HB.out | apply below_alloc | apply pw_below_drewN | apply below_drew1) | exact HB.out)⟩
            · rw [if_neg c11] at H
              have c11b0 : (t105 != (decide ((Int.tmod (Go.bits .and .i64 a0 255) 10) ≤ 6))) = false := by simpa using c11
              (try (have c11b1 : decide (t105 = (decide ((Int.tmod (Go.bits .and .i64 a0 255) 10) ≤ 6))) = true := by simpa using c11))
              (try (have c11b2 : (t105 == (decide ((Int.tmod (Go.bits .and .i64 a0 255) 10) ≤ 6))) = true := by simpa using c11))
              clear c11
              by_cases c13 : t105 = true
              · subst c13
                have H1 : (credenzalaw9_NameDeep.l1 kj7 x3_7 t104) = some r := by rw [if_pos rfl] at H; exact H
                clear H
                have H := H1
                clear H1
                have H' := Aside0.mk H
                clear H
                go_wp2_with (first | ((with_reducible refine gate_callee (f := 12) rfl ?_); refine goesL_ (some 35) rfl rfl Tryd.func12 (by kernel_rfl) rfl #[.string x3_7] rfl (by (try simp only [List.map_toArray, List.map_cons, List.map_nil]); first | done | rfl | (simp only [List.length_drop, List.length_take]; rfl)) ?_; (with_reducible refine (name_Split.calls x3_7 t104 true _ A10.out).mono ?_); rintro e w14 ⟨v106, rfl, ho0, hb⟩; refine ⟨_, rfl, ?_⟩; have n0_ := Aside0.mk (Kd.R_lower ho0 (below_size (by repeat (first | (with_reducible first | exact HB.out | apply below_alloc | apply pw_below_drewN | apply below_drew1) | exact HB.out)))); have n1_ := Aside0.mk (below_step (by repeat (first | (with_reducible first | exact HB.out | apply below_alloc | apply pw_below_drewN | apply below_drew1) | exact HB.out)) hb); clear HB; have HO107 := n0_; have HB := n1_; clear n0_ n1_; (try clear hb); (try clear hb2); (try clear hk); (try clear hi); (try clear ho0)))
                go_loopg [3, 5] kj7 (fun kq v3 v5 w' => ∃ (x3_3 : ByteArray) (x5_3 : List ByteArray), v3 = .string x3_3 ∧ Aside0 (credenzalaw9_NameDeep.l1 kq x3_3 x5_3 = some r) ∧ Aside0 (kq ≤ kj7) ∧ Aside0 (Kd.R Kd.string 9 w' w.heap.size (fun _ => True) v5 x5_3) ∧ Aside0 (Below w.heap.size w w'))
                case atStart => exact ⟨(x3_7), (t104), (by first | rfl | (simp; done) | (simp [*]; done)), H', ⟨Nat.le_refl _⟩, ⟨by (with_reducible repeat (first | apply Kd.R_alloc | apply Kd.R_drewN | apply Kd.R_drew)); exact HO107.out⟩, ⟨by repeat (first | (with_reducible first | exact HB.out | apply below_alloc | apply pw_below_drewN | apply below_drew1) | exact HB.out)⟩⟩
                case round =>
                  clear H'
                  try clear c1
                  try clear c2
                  try clear c2b0
                  try clear p2
                  try clear c3
                  try clear c3b0
                  try clear c3b1
                  try clear c3b2
                  try clear c4
                  try clear c4b0
                  try clear c4b1
                  try clear c4b2
                  try clear p6
                  try clear c7
                  try clear hcv7
                  try clear c9
                  try clear c9b0
                  try clear c9b1
                  try clear c11
                  try clear c11b0
                  try clear c11b1
                  try clear c11b2
                  try clear c12
                  try clear c13
                  try clear p2
                  try clear p6
                  obtain ⟨x3_3, x5_3, rfl, HA, HK3, HO_5, HB⟩ := hrel
                  cases gk with
                  | zero => exact absurd HA.out (by simp [credenzalaw9_NameDeep.l1])
                  | succ k3 =>
                    have H := HA.out
                    clear HA
                    simp only [credenzalaw9_NameDeep.l1] at H
                    by_cases c15 : (x5_3.length : Int) > 0
                    · rw [if_pos c15] at H
                      have c15b0 : decide (0 < (x5_3.length : Int)) = true := decide_eq_true c15
                      have c15b1 : decide (0 < x5_3.length) = true := decide_eq_true (by omega)
                      clear c15
                      replace H := Option.bind_eq_some_iff.mp H
                      obtain ⟨⟨t113, t114, t115⟩, A160, H⟩ := H
                      replace H : (if t115 = true then (if 0 ≤ (wrap64 ((x5_3.length : Int) - 1)) then (if (wrap64 ((x5_3.length : Int) - 1)) < (x5_3.length : Int) then (if t114.toList = (rdOf ByteArray.empty x5_3 (wrap64 ((x5_3.length : Int) - 1))).toList then ((name_Within.f x3_3 t113).bind fun t117 => (if t117 = true then ((name_Within.f t113 x3_3).bind fun t118 => (credenzalaw9_NameDeep.j3 k3 x5_3 t113 t118)) else (credenzalaw9_NameDeep.j3 k3 x5_3 t113 true))) else (credenzalaw9_NameDeep.j3 k3 x5_3 t113 true)) else (none)) else (none)) else (credenzalaw9_NameDeep.j3 k3 x5_3 t113 true)) = some r := H
                      have A16 := Aside0.mk A160
                      clear A160
                      have HC17 := Aside0.mk H
                      clear H
                      obtain ⟨Ao18, co18, eo18⟩ := Kd.R_slice HO_5.out
                      subst eo18
                      go_upto_region 16 with (first | ((with_reducible refine gate_callee (f := 17) rfl ?_); refine goesL_ (some 55) rfl rfl Tryd.func17 (by kernel_rfl) rfl #[.string x3_3] rfl (by (try simp only [List.map_toArray, List.map_cons, List.map_nil]); first | done | rfl | (simp only [List.length_drop, List.length_take]; rfl)) ?_; (with_reducible refine (name_Parent.calls x3_3 t113 t114 t115 _ A16.out).mono ?_); rintro e w19 ⟨rfl, hb⟩; refine ⟨_, rfl, ?_⟩; have n0_ := Aside0.mk (Kd.R_below (by (with_reducible repeat (first | apply Kd.R_alloc | apply Kd.R_drewN | apply Kd.R_drew)); exact HO_5.out) hb); have n1_ := Aside0.mk (below_step (by repeat (first | (with_reducible first | exact HB.out | apply below_alloc | apply pw_below_drewN | apply below_drew1) | exact HB.out)) hb); clear HO_5; clear HB; have HO_5 := n0_; have HB := n1_; clear n0_ n1_; (try clear hb); (try clear hb2); (try clear hk); (try clear hi)))
                      (try simp only [Act.put, List.setIfInBounds_toArray, List.set_cons_zero, List.set_cons_succ])
                      go_cut [81] (fun v81 wc => ∃ (kq : Nat) (x81_16 : Bool), v81 = .bool x81_16 ∧ Aside0 (credenzalaw9_NameDeep.j3 kq x5_3 t113 x81_16 = some r) ∧ Aside0 (kq ≤ k3) ∧ Aside0 (Kd.R Kd.string 9 wc w.heap.size (fun _ => True) (.slice Ao18 x5_3.length co18) x5_3) ∧ Aside0 (Below w.heap.size w wc))
                      case first =>
                        have H := HC17.out
                        clear HC17
                        by_cases c20 : t115 = true
                        · subst c20
                          have H1 : (if 0 ≤ (wrap64 ((x5_3.length : Int) - 1)) then (if (wrap64 ((x5_3.length : Int) - 1)) < (x5_3.length : Int) then (if t114.toList = (rdOf ByteArray.empty x5_3 (wrap64 ((x5_3.length : Int) - 1))).toList then ((name_Within.f x3_3 t113).bind fun t117 => (if t117 = true then ((name_Within.f t113 x3_3).bind fun t118 => (credenzalaw9_NameDeep.j3 k3 x5_3 t113 t118)) else (credenzalaw9_NameDeep.j3 k3 x5_3 t113 true))) else (credenzalaw9_NameDeep.j3 k3 x5_3 t113 true)) else (none)) else (none)) = some r := by rw [if_pos rfl] at H; exact H
                          clear H
                          have H := H1
                          clear H1
                          obtain ⟨ji21, hji21⟩ : ∃ j_ : Int, (wrap64 ((x5_3.length : Int) - 1)) = j_ := ⟨_, rfl⟩
                          replace H : (if 0 ≤ (ji21) then (if (ji21) < (x5_3.length : Int) then (if t114.toList = (rdOf ByteArray.empty x5_3 (ji21)).toList then ((name_Within.f x3_3 t113).bind fun t117 => (if t117 = true then ((name_Within.f t113 x3_3).bind fun t118 => (credenzalaw9_NameDeep.j3 k3 x5_3 t113 t118)) else (credenzalaw9_NameDeep.j3 k3 x5_3 t113 true))) else (credenzalaw9_NameDeep.j3 k3 x5_3 t113 true)) else (none)) else (none)) = some r := by first | (rw [hji21] at H; exact H) | (simp only [hji21] at H ⊢; exact H)
                          have hji21w : (IntKind.i64.wrap ((x5_3.length : Int) - 1)) = ji21 := (i64_w _).trans hji21
                          by_cases c22 : 0 ≤ (ji21)
                          · rw [if_pos c22] at H
                            have c22b0 : decide (0 ≤ (ji21)) = true := decide_eq_true c22
                            clear c22
                            (first | rw [c22b0] | (simp only [i64_w, i32_w]; rw [c22b0]) | skip)
                            by_cases c23 : (ji21) < (x5_3.length : Int)
                            · rw [if_pos c23] at H
                              have c23b0 : decide ((ji21) < (x5_3.length : Int)) = true := decide_eq_true c23
                              clear c23
                              by_cases c24 : t114.toList = (rdOf ByteArray.empty x5_3 (ji21)).toList
                              · rw [if_pos c24] at H
                                have c24b0 : (t114.toList == (rdOf ByteArray.empty x5_3 (ji21)).toList) = true := beq_iff_eq.mpr c24
                                have c24b1 : (t114.toList != (rdOf ByteArray.empty x5_3 (ji21)).toList) = false := bne_eq_false_iff_eq.mpr c24
                                clear c24
                                replace H := Option.bind_eq_some_iff.mp H
                                obtain ⟨t117, A250, H⟩ := H
                                replace H : (if t117 = true then ((name_Within.f t113 x3_3).bind fun t118 => (credenzalaw9_NameDeep.j3 k3 x5_3 t113 t118)) else (credenzalaw9_NameDeep.j3 k3 x5_3 t113 true)) = some r := H
                                have A25 := Aside0.mk A250
                                clear A250
                                by_cases c26 : t117 = true
                                · subst c26
                                  have H1 : ((name_Within.f t113 x3_3).bind fun t118 => (credenzalaw9_NameDeep.j3 k3 x5_3 t113 t118)) = some r := by rw [if_pos rfl] at H; exact H
                                  clear H
                                  have H := H1
                                  clear H1
                                  replace H := Option.bind_eq_some_iff.mp H
                                  obtain ⟨t118, A270, H⟩ := H
                                  replace H : (credenzalaw9_NameDeep.j3 k3 x5_3 t113 t118) = some r := H
                                  have A27 := Aside0.mk A270
                                  clear A270
                                  have H' := Aside0.mk H
                                  clear H
                                  have p116 : 0 ≤ ((ji21) : Int) := of_decide_eq_true (by first | (with_reducible assumption) | assumption)
                                  have q116 : (ji21) < (x5_3.length : Int) := of_decide_eq_true (by first | (with_reducible assumption) | assumption)
                                  obtain ⟨ad116, e116, hx116_0⟩ := Kd.at_string (Kd.R_reads' HO_5.out).2.2 (ji21) p116 q116
                                  cases e116
                                  replace p116 := eq_true p116
                                  replace q116 := eq_true q116
                                  go_wp2_with (first | (go_at_call 19; (with_reducible refine (name_Within.calls x3_3 t113 true _ A25.out).mono ?_); rintro e w28 ⟨rfl, hb⟩; have n0_ := Aside0.mk (Kd.R_below (by (with_reducible repeat (first | apply Kd.R_alloc | apply Kd.R_drewN | apply Kd.R_drew)); exact HO_5.out) hb); have n1_ := Aside0.mk (below_step (by repeat (first | (with_reducible first | exact HB.out | apply below_alloc | apply pw_below_drewN | apply below_drew1) | exact HB.out)) hb); clear HO_5; clear HB; have HO_5 := n0_; have HB := n1_; clear n0_ n1_; (try clear hb); (try clear hb2); (try clear hk); (try clear hi)) | (go_at_call 19; (with_reducible refine (name_Within.calls t113 x3_3 t118 _ A27.out).mono ?_); rintro e w29 ⟨rfl, hb⟩; have n0_ := Aside0.mk (Kd.R_below (by (with_reducible repeat (first | apply Kd.R_alloc | apply Kd.R_drewN | apply Kd.R_drew)); exact HO_5.out) hb); have n1_ := Aside0.mk (below_step (by repeat (first | (with_reducible first | exact HB.out | apply below_alloc | apply pw_below_drewN | apply below_drew1) | exact HB.out)) hb); clear HO_5; clear HB; have HO_5 := n0_; have HB := n1_; clear n0_ n1_; (try clear hb); (try clear hb2); (try clear hk); (try clear hi)))
                                  go_meet
                                  case rel => exact ⟨_, (t118), (by first | rfl | (simp; done) | (simp [*]; done)), H', ⟨by have := HK1.out; have := HJ7.out; have := HK3.out; first | omega | exact Nat.le_refl _⟩, ⟨by (with_reducible repeat (first | apply Kd.R_alloc | apply Kd.R_drewN | apply Kd.R_drew)); exact HO_5.out⟩, ⟨by repeat (first | (with_reducible first | exact HB.out | apply below_alloc | apply pw_below_drewN | apply below_drew1) | exact HB.out)⟩⟩
                                · replace c26 := Bool.eq_false_iff.mpr c26
                                  subst c26
                                  have H1 : (credenzalaw9_NameDeep.j3 k3 x5_3 t113 true) = some r := by rw [if_neg (show ¬ (false = true) by decide)] at H; exact H
                                  clear H
                                  have H := H1
                                  clear H1
                                  have H' := Aside0.mk H
                                  clear H
                                  have p116 : 0 ≤ ((ji21) : Int) := of_decide_eq_true (by first | (with_reducible assumption) | assumption)
                                  have q116 : (ji21) < (x5_3.length : Int) := of_decide_eq_true (by first | (with_reducible assumption) | assumption)
                                  obtain ⟨ad116, e116, hx116_0⟩ := Kd.at_string (Kd.R_reads' HO_5.out).2.2 (ji21) p116 q116
                                  cases e116
                                  replace p116 := eq_true p116
                                  replace q116 := eq_true q116
                                  go_wp2_with (first | (go_at_call 19; (with_reducible refine (name_Within.calls x3_3 t113 false _ A25.out).mono ?_); rintro e w30 ⟨rfl, hb⟩; have n0_ := Aside0.mk (Kd.R_below (by (with_reducible repeat (first | apply Kd.R_alloc | apply Kd.R_drewN | apply Kd.R_drew)); exact HO_5.out) hb); have n1_ := Aside0.mk (below_step (by repeat (first | (with_reducible first | exact HB.out | apply below_alloc | apply pw_below_drewN | apply below_drew1) | exact HB.out)) hb); clear HO_5; clear HB; have HO_5 := n0_; have HB := n1_; clear n0_ n1_; (try clear hb); (try clear hb2); (try clear hk); (try clear hi)))
                                  go_meet
                                  case rel => exact ⟨_, (true), (by first | rfl | (simp; done) | (simp [*]; done)), H', ⟨by have := HK1.out; have := HJ7.out; have := HK3.out; first | omega | exact Nat.le_refl _⟩, ⟨by (with_reducible repeat (first | apply Kd.R_alloc | apply Kd.R_drewN | apply Kd.R_drew)); exact HO_5.out⟩, ⟨by repeat (first | (with_reducible first | exact HB.out | apply below_alloc | apply pw_below_drewN | apply below_drew1) | exact HB.out)⟩⟩
                              · rw [if_neg c24] at H
                                have c24b0 : (t114.toList == (rdOf ByteArray.empty x5_3 (ji21)).toList) = false := beq_eq_false_iff_ne.mpr c24
                                have c24b1 : (t114.toList != (rdOf ByteArray.empty x5_3 (ji21)).toList) = true := bne_iff_ne.mpr c24
                                have H' := Aside0.mk H
                                clear H
                                have p116 : 0 ≤ ((ji21) : Int) := of_decide_eq_true (by first | (with_reducible assumption) | assumption)
                                have q116 : (ji21) < (x5_3.length : Int) := of_decide_eq_true (by first | (with_reducible assumption) | assumption)
                                obtain ⟨ad116, e116, hx116_0⟩ := Kd.at_string (Kd.R_reads' HO_5.out).2.2 (ji21) p116 q116
                                cases e116
                                replace p116 := eq_true p116
                                replace q116 := eq_true q116
                                go_wp2
                                go_meet
                                case rel => exact ⟨_, (true), (by first | rfl | (simp; done) | (simp [*]; done)), H', ⟨by have := HK1.out; have := HJ7.out; have := HK3.out; first | omega | exact Nat.le_refl _⟩, ⟨by (with_reducible repeat (first | apply Kd.R_alloc | apply Kd.R_drewN | apply Kd.R_drew)); exact HO_5.out⟩, ⟨by repeat (first | (with_reducible first | exact HB.out | apply below_alloc | apply pw_below_drewN | apply below_drew1) | exact HB.out)⟩⟩
                            · rw [if_neg c23] at H
                              exact absurd H (by simp)
                          · rw [if_neg c22] at H
                            exact absurd H (by simp)
                        · replace c20 := Bool.eq_false_iff.mpr c20
                          subst c20
                          have H1 : (credenzalaw9_NameDeep.j3 k3 x5_3 t113 true) = some r := by rw [if_neg (show ¬ (false = true) by decide)] at H; exact H
                          clear H
                          have H := H1
                          clear H1
                          have H' := Aside0.mk H
                          clear H
                          go_wp2
                          go_meet
                          case rel => exact ⟨_, (true), (by first | rfl | (simp; done) | (simp [*]; done)), H', ⟨by have := HK1.out; have := HJ7.out; have := HK3.out; first | omega | exact Nat.le_refl _⟩, ⟨by (with_reducible repeat (first | apply Kd.R_alloc | apply Kd.R_drewN | apply Kd.R_drew)); exact HO_5.out⟩, ⟨by repeat (first | (with_reducible first | exact HB.out | apply below_alloc | apply pw_below_drewN | apply below_drew1) | exact HB.out)⟩⟩
                      case rest =>
                        clear HC17
                        try clear c1
                        try clear p1
                        try clear q1
                        try clear hx1
                        try clear c2
                        try clear c2b0
                        try clear p2
                        try clear c3
                        try clear c3b0
                        try clear c3b1
                        try clear c3b2
                        try clear c4
                        try clear c4b0
                        try clear c4b1
                        try clear c4b2
                        try clear p6
                        try clear c7
                        try clear hcv7
                        try clear c9
                        try clear c9b0
                        try clear c9b1
                        try clear c11
                        try clear c11b0
                        try clear c11b1
                        try clear c11b2
                        try clear p11
                        try clear q11
                        try clear hx11
                        try clear c12
                        try clear c13
                        try clear c15
                        try clear c15b0
                        try clear c15b1
                        try clear c17
                        try clear c20
                        try clear c22
                        try clear c22b0
                        try clear c23
                        try clear c23b0
                        try clear c24
                        try clear c24b0
                        try clear c24b1
                        try clear c26
                        try clear hx116_0
                        try clear p116
                        try clear p2
                        try clear p6
                        try clear q116
                        obtain ⟨kq, x81_16, rfl, HA, HJ16, HO_5, HB⟩ := hcut
                        cases kq with
                        | zero => exact absurd HA.out (by simp [credenzalaw9_NameDeep.j3])
                        | succ kj16 =>
                          have H := HA.out
                          clear HA
                          simp only [credenzalaw9_NameDeep.j3] at H
                          by_cases c31 : x81_16 = true
                          · subst c31
                            have H1 : (some false) = some r := by rw [if_pos rfl] at H; exact H
                            clear H
                            have H := H1
                            clear H1
                            obtain rfl := Option.some.inj H
                            go_wp2
                            go_ret
                            exact ⟨by first | rfl | (simp [errW_none, errW_some] <;> rfl) | (simp [*, errW_none, errW_some] <;> rfl), by repeat (first | (with_reducible first | exact HB.out | apply below_alloc | apply pw_below_drewN | apply below_drew1) | exact HB.out)⟩
                          · replace c31 := Bool.eq_false_iff.mpr c31
                            subst c31
                            have H1 : ((name_Split.f t113).bind fun bt119 => (if bt119.2 = true then (if (bt119.1.length : Int) = (wrap64 ((x5_3.length : Int) - 1)) then (credenzalaw9_NameDeep.l1 kj16 t113 bt119.1) else (some false)) else (some false))) = some r := by rw [if_neg (show ¬ (false = true) by decide)] at H; exact H
                            clear H
                            have H := H1
                            clear H1
                            replace H := Option.bind_eq_some_iff.mp H
                            obtain ⟨⟨t119, t120⟩, A320, H⟩ := H
                            replace H : (if t120 = true then (if (t119.length : Int) = (wrap64 ((x5_3.length : Int) - 1)) then (credenzalaw9_NameDeep.l1 kj16 t113 t119) else (some false)) else (some false)) = some r := H
                            have A32 := Aside0.mk A320
                            clear A320
                            by_cases c33 : t120 = true
                            · subst c33
                              have H1 : (if (t119.length : Int) = (wrap64 ((x5_3.length : Int) - 1)) then (credenzalaw9_NameDeep.l1 kj16 t113 t119) else (some false)) = some r := by rw [if_pos rfl] at H; exact H
                              clear H
                              have H := H1
                              clear H1
                              by_cases c34 : (t119.length : Int) = (wrap64 ((x5_3.length : Int) - 1))
                              · rw [if_pos c34] at H
                                have c34b0 : ((t119.length : Int) == (wrap64 ((x5_3.length : Int) - 1))) = true := beq_iff_eq.mpr c34
                                have c34b1 : ((t119.length : Int) != (wrap64 ((x5_3.length : Int) - 1))) = false := bne_eq_false_iff_eq.mpr c34
                                clear c34
                                have H' := Aside0.mk H
                                clear H
                                go_wp2_with (first | ((with_reducible refine gate_callee (f := 12) rfl ?_); refine goesL_ (some 85) rfl rfl Tryd.func12 (by kernel_rfl) rfl #[.string t113] rfl (by (try simp only [List.map_toArray, List.map_cons, List.map_nil]); first | done | rfl | (simp only [List.length_drop, List.length_take]; rfl)) ?_; (with_reducible refine (name_Split.calls t113 t119 true _ A32.out).mono ?_); rintro e w35 ⟨v121, rfl, ho0, hb⟩; refine ⟨_, rfl, ?_⟩; have n0_ := Aside0.mk (Kd.R_elder' (by (with_reducible repeat (first | apply Kd.R_alloc | apply Kd.R_drewN | apply Kd.R_drew)); exact HO_5.out) (Kd.R_base ho0) hb); have n1_ := Aside0.mk (Kd.R_lower (Kd.R_new' ho0 (Kd.R_lt (by (with_reducible repeat (first | apply Kd.R_alloc | apply Kd.R_drewN | apply Kd.R_drew)); exact HO_5.out))) (below_size (by repeat (first | (with_reducible first | exact HB.out | apply below_alloc | apply pw_below_drewN | apply below_drew1) | exact HB.out)))); have n2_ := Aside0.mk (below_step (by repeat (first | (with_reducible first | exact HB.out | apply below_alloc | apply pw_below_drewN | apply below_drew1) | exact HB.out)) hb); clear HO_5; clear HB; have HO_5 := n0_; have HO122 := n1_; have HB := n2_; clear n0_ n1_ n2_; (try clear hb); (try clear hb2); (try clear hk); (try clear hi); (try clear ho0); obtain ⟨Ao36, co36, eo36⟩ := Kd.R_slice HO122.out; subst eo36))
                                go_roundg kj16
                                case measure => have := HK1.out; have := HJ7.out; have := HK3.out; have := HJ16.out; omega
                                case rel => exact ⟨(t113), (t119), (by first | rfl | (simp; done) | (simp [*]; done)), H', ⟨by have := HK1.out; have := HJ7.out; have := HK3.out; have := HJ16.out; omega⟩, ⟨by (with_reducible repeat (first | apply Kd.R_alloc | apply Kd.R_drewN | apply Kd.R_drew)); exact Kd.R_mono HO122.out (fun _ hk => trivial)⟩, ⟨by repeat (first | (with_reducible first | exact HB.out | apply below_alloc | apply pw_below_drewN | apply below_drew1) | exact HB.out)⟩⟩
                              · rw [if_neg c34] at H
                                have c34b0 : ((t119.length : Int) == (wrap64 ((x5_3.length : Int) - 1))) = false := beq_eq_false_iff_ne.mpr c34
                                have c34b1 : ((t119.length : Int) != (wrap64 ((x5_3.length : Int) - 1))) = true := bne_iff_ne.mpr c34
                                obtain rfl := Option.some.inj H
                                go_wp2_with (first | ((with_reducible refine gate_callee (f := 12) rfl ?_); refine goesL_ (some 85) rfl rfl Tryd.func12 (by kernel_rfl) rfl #[.string t113] rfl (by (try simp only [List.map_toArray, List.map_cons, List.map_nil]); first | done | rfl | (simp only [List.length_drop, List.length_take]; rfl)) ?_; (with_reducible refine (name_Split.calls t113 t119 true _ A32.out).mono ?_); rintro e w37 ⟨v121, rfl, ho0, hb⟩; refine ⟨_, rfl, ?_⟩; have n0_ := Aside0.mk (Kd.R_elder' (by (with_reducible repeat (first | apply Kd.R_alloc | apply Kd.R_drewN | apply Kd.R_drew)); exact HO_5.out) (Kd.R_base ho0) hb); have n1_ := Aside0.mk (Kd.R_lower (Kd.R_new' ho0 (Kd.R_lt (by (with_reducible repeat (first | apply Kd.R_alloc | apply Kd.R_drewN | apply Kd.R_drew)); exact HO_5.out))) (below_size (by repeat (first | (with_reducible first | exact HB.out | apply below_alloc | apply pw_below_drewN | apply below_drew1) | exact HB.out)))); have n2_ := Aside0.mk (below_step (by repeat (first | (with_reducible first | exact HB.out | apply below_alloc | apply pw_below_drewN | apply below_drew1) | exact HB.out)) hb); clear HO_5; clear HB; have HO_5 := n0_; have HO122 := n1_; have HB := n2_; clear n0_ n1_ n2_; (try clear hb); (try clear hb2); (try clear hk); (try clear hi); (try clear ho0); obtain ⟨Ao38, co38, eo38⟩ := Kd.R_slice HO122.out; subst eo38))
                                go_ret
                                exact ⟨by first | rfl | (simp [errW_none, errW_some] <;> rfl) | (simp [*, errW_none, errW_some] <;> rfl), by repeat (first | (with_reducible first | exact HB.out | apply below_alloc | apply pw_below_drewN | apply below_drew1) | exact HB.out)⟩
                            · replace c33 := Bool.eq_false_iff.mpr c33
                              subst c33
                              have H1 : (some false) = some r := by rw [if_neg (show ¬ (false = true) by decide)] at H; exact H
                              clear H
                              have H := H1
                              clear H1
                              obtain rfl := Option.some.inj H
                              go_wp2_with (first | ((with_reducible refine gate_callee (f := 12) rfl ?_); refine goesL_ (some 85) rfl rfl Tryd.func12 (by kernel_rfl) rfl #[.string t113] rfl (by (try simp only [List.map_toArray, List.map_cons, List.map_nil]); first | done | rfl | (simp only [List.length_drop, List.length_take]; rfl)) ?_; (with_reducible refine (name_Split.calls t113 t119 false _ A32.out).mono ?_); rintro e w39 ⟨v121, rfl, ho0, hb⟩; refine ⟨_, rfl, ?_⟩; have n0_ := Aside0.mk (Kd.R_elder' (by (with_reducible repeat (first | apply Kd.R_alloc | apply Kd.R_drewN | apply Kd.R_drew)); exact HO_5.out) (Kd.R_base ho0) hb); have n1_ := Aside0.mk (Kd.R_lower (Kd.R_new' ho0 (Kd.R_lt (by (with_reducible repeat (first | apply Kd.R_alloc | apply Kd.R_drewN | apply Kd.R_drew)); exact HO_5.out))) (below_size (by repeat (first | (with_reducible first | exact HB.out | apply below_alloc | apply pw_below_drewN | apply below_drew1) | exact HB.out)))); have n2_ := Aside0.mk (below_step (by repeat (first | (with_reducible first | exact HB.out | apply below_alloc | apply pw_below_drewN | apply below_drew1) | exact HB.out)) hb); clear HO_5; clear HB; have HO_5 := n0_; have HO122 := n1_; have HB := n2_; clear n0_ n1_ n2_; (try clear hb); (try clear hb2); (try clear hk); (try clear hi); (try clear ho0)))
                              go_ret
                              exact ⟨by first | rfl | (simp [errW_none, errW_some] <;> rfl) | (simp [*, errW_none, errW_some] <;> rfl), by repeat (first | (with_reducible first | exact HB.out | apply below_alloc | apply pw_below_drewN | apply below_drew1) | exact HB.out)⟩
                    · rw [if_neg c15] at H
                      have c15b0 : decide (0 < (x5_3.length : Int)) = false := decide_eq_false c15
                      have c15b1 : decide (0 < x5_3.length) = false := decide_eq_false (by omega)
                      clear c15
                      replace H := Option.bind_eq_some_iff.mp H
                      obtain ⟨⟨t109, t110, t111⟩, A400, H⟩ := H
                      replace H : (if x3_3.toList = ([47] : List UInt8) then (if t111 = true then (some false) else ((credenzalaw9_awake.f).bind fun t112 => (some t112))) else (some false)) = some r := H
                      have A40 := Aside0.mk A400
                      clear A400
                      by_cases c41 : x3_3.toList = ([47] : List UInt8)
                      · rw [if_pos c41] at H
                        have c41b0 : (x3_3.toList == ([47] : List UInt8)) = true := beq_iff_eq.mpr c41
                        have c41b1 : (x3_3.toList != ([47] : List UInt8)) = false := bne_eq_false_iff_eq.mpr c41
                        clear c41
                        by_cases c42 : t111 = true
                        · subst c42
                          have H1 : (some false) = some r := by rw [if_pos rfl] at H; exact H
                          clear H
                          have H := H1
                          clear H1
                          obtain rfl := Option.some.inj H
                          obtain ⟨Ao43, co43, eo43⟩ := Kd.R_slice HO_5.out
                          subst eo43
                          go_wp2_with (first | ((with_reducible refine gate_callee (f := 17) rfl ?_); refine goesL_ (some 100) rfl rfl Tryd.func17 (by kernel_rfl) rfl #[.string (⟨#[47]⟩ : ByteArray)] rfl (by (try simp only [List.map_toArray, List.map_cons, List.map_nil]); first | done | rfl | (simp only [List.length_drop, List.length_take]; rfl)) ?_; (with_reducible refine (name_Parent.calls (⟨#[47]⟩ : ByteArray) t109 t110 true _ A40.out).mono ?_); rintro e w44 ⟨rfl, hb⟩; refine ⟨_, rfl, ?_⟩; have n0_ := Aside0.mk (Kd.R_below (by (with_reducible repeat (first | apply Kd.R_alloc | apply Kd.R_drewN | apply Kd.R_drew)); exact HO_5.out) hb); have n1_ := Aside0.mk (below_step (by repeat (first | (with_reducible first | exact HB.out | apply below_alloc | apply pw_below_drewN | apply below_drew1) | exact HB.out)) hb); clear HO_5; clear HB; have HO_5 := n0_; have HB := n1_; clear n0_ n1_; (try clear hb); (try clear hb2); (try clear hk); (try clear hi)))
                          go_ret
                          exact ⟨by first | rfl | (simp [errW_none, errW_some] <;> rfl) | (simp [*, errW_none, errW_some] <;> rfl), by repeat (first | (with_reducible first | exact HB.out | apply below_alloc | apply pw_below_drewN | apply below_drew1) | exact HB.out)⟩
                        · replace c42 := Bool.eq_false_iff.mpr c42
                          subst c42
                          have H1 : ((credenzalaw9_awake.f).bind fun t112 => (some t112)) = some r := by rw [if_neg (show ¬ (false = true) by decide)] at H; exact H
                          clear H
                          have H := H1
                          clear H1
                          replace H := Option.bind_eq_some_iff.mp H
                          obtain ⟨t112, A450, H⟩ := H
                          replace H : (some t112) = some r := H
                          have A45 := Aside0.mk A450
                          clear A450
                          obtain rfl := Option.some.inj H
                          obtain ⟨Ao46, co46, eo46⟩ := Kd.R_slice HO_5.out
                          subst eo46
                          go_wp2_with (first | ((with_reducible refine gate_callee (f := 17) rfl ?_); refine goesL_ (some 100) rfl rfl Tryd.func17 (by kernel_rfl) rfl #[.string (⟨#[47]⟩ : ByteArray)] rfl (by (try simp only [List.map_toArray, List.map_cons, List.map_nil]); first | done | rfl | (simp only [List.length_drop, List.length_take]; rfl)) ?_; (with_reducible refine (name_Parent.calls (⟨#[47]⟩ : ByteArray) t109 t110 false _ A40.out).mono ?_); rintro e w47 ⟨rfl, hb⟩; refine ⟨_, rfl, ?_⟩; have n0_ := Aside0.mk (Kd.R_below (by (with_reducible repeat (first | apply Kd.R_alloc | apply Kd.R_drewN | apply Kd.R_drew)); exact HO_5.out) hb); have n1_ := Aside0.mk (below_step (by repeat (first | (with_reducible first | exact HB.out | apply below_alloc | apply pw_below_drewN | apply below_drew1) | exact HB.out)) hb); clear HO_5; clear HB; have HO_5 := n0_; have HB := n1_; clear n0_ n1_; (try clear hb); (try clear hb2); (try clear hk); (try clear hi)) | (go_at_call 10; (with_reducible refine (credenzalaw9_awake.calls  t112 _ A45.out).mono ?_); rintro e w48 ⟨rfl, hb⟩; have n0_ := Aside0.mk (Kd.R_below (by (with_reducible repeat (first | apply Kd.R_alloc | apply Kd.R_drewN | apply Kd.R_drew)); exact HO_5.out) hb); have n1_ := Aside0.mk (below_step (by repeat (first | (with_reducible first | exact HB.out | apply below_alloc | apply pw_below_drewN | apply below_drew1) | exact HB.out)) hb); clear HO_5; clear HB; have HO_5 := n0_; have HB := n1_; clear n0_ n1_; (try clear hb); (try clear hb2); (try clear hk); (try clear hi)))
                          go_ret
                          exact ⟨by first | rfl | (simp [errW_none, errW_some] <;> rfl) | (simp [*, errW_none, errW_some] <;> rfl), by repeat (first | (with_reducible first | exact HB.out | apply below_alloc | apply pw_below_drewN | apply below_drew1) | exact HB.out)⟩
                      · rw [if_neg c41] at H
                        have c41b0 : (x3_3.toList == ([47] : List UInt8)) = false := beq_eq_false_iff_ne.mpr c41
                        have c41b1 : (x3_3.toList != ([47] : List UInt8)) = true := bne_iff_ne.mpr c41
                        obtain rfl := Option.some.inj H
                        obtain ⟨Ao49, co49, eo49⟩ := Kd.R_slice HO_5.out
                        subst eo49
                        go_wp2_with (first | ((with_reducible refine gate_callee (f := 17) rfl ?_); refine goesL_ (some 100) rfl rfl Tryd.func17 (by kernel_rfl) rfl #[.string (⟨#[47]⟩ : ByteArray)] rfl (by (try simp only [List.map_toArray, List.map_cons, List.map_nil]); first | done | rfl | (simp only [List.length_drop, List.length_take]; rfl)) ?_; (with_reducible refine (name_Parent.calls (⟨#[47]⟩ : ByteArray) t109 t110 t111 _ A40.out).mono ?_); rintro e w50 ⟨rfl, hb⟩; refine ⟨_, rfl, ?_⟩; have n0_ := Aside0.mk (Kd.R_below (by (with_reducible repeat (first | apply Kd.R_alloc | apply Kd.R_drewN | apply Kd.R_drew)); exact HO_5.out) hb); have n1_ := Aside0.mk (below_step (by repeat (first | (with_reducible first | exact HB.out | apply below_alloc | apply pw_below_drewN | apply below_drew1) | exact HB.out)) hb); clear HO_5; clear HB; have HO_5 := n0_; have HB := n1_; clear n0_ n1_; (try clear hb); (try clear hb2); (try clear hk); (try clear hi)))
                        go_ret
                        exact ⟨by first | rfl | (simp [errW_none, errW_some] <;> rfl) | (simp [*, errW_none, errW_some] <;> rfl), by repeat (first | (with_reducible first | exact HB.out | apply below_alloc | apply pw_below_drewN | apply below_drew1) | exact HB.out)⟩
              · replace c13 := Bool.eq_false_iff.mpr c13
                subst c13
                have H1 : (if (t104.length : Int) = 0 then ((credenzalaw9_awake.f).bind fun t108 => (some t108)) else (some false)) = some r := by rw [if_neg (show ¬ (false = true) by decide)] at H; exact H
                clear H
                have H := H1
                clear H1
                by_cases c51 : (t104.length : Int) = 0
                · rw [if_pos c51] at H
                  have c51b0 : ((t104.length : Int) == 0) = true := beq_iff_eq.mpr c51
                  have c51b1 : ((t104.length : Int) != 0) = false := bne_eq_false_iff_eq.mpr c51
                  clear c51
                  replace H := Option.bind_eq_some_iff.mp H
                  obtain ⟨t108, A520, H⟩ := H
                  replace H : (some t108) = some r := H
                  have A52 := Aside0.mk A520
                  clear A520
                  obtain rfl := Option.some.inj H
                  go_wp2_with (first | ((with_reducible refine gate_callee (f := 12) rfl ?_); refine goesL_ (some 35) rfl rfl Tryd.func12 (by kernel_rfl) rfl #[.string x3_7] rfl (by (try simp only [List.map_toArray, List.map_cons, List.map_nil]); first | done | rfl | (simp only [List.length_drop, List.length_take]; rfl)) ?_; (with_reducible refine (name_Split.calls x3_7 t104 false _ A10.out).mono ?_); rintro e w53 ⟨v106, rfl, ho0, hb⟩; refine ⟨_, rfl, ?_⟩; have n0_ := Aside0.mk (Kd.R_lower ho0 (below_size (by repeat (first | (with_reducible first | exact HB.out | apply below_alloc | apply pw_below_drewN | apply below_drew1) | exact HB.out)))); have n1_ := Aside0.mk (below_step (by repeat (first | (with_reducible first | exact HB.out | apply below_alloc | apply pw_below_drewN | apply below_drew1) | exact HB.out)) hb); clear HB; have HO107 := n0_; have HB := n1_; clear n0_ n1_; (try clear hb); (try clear hb2); (try clear hk); (try clear hi); (try clear ho0); obtain ⟨Ao54, co54, eo54⟩ := Kd.R_slice HO107.out; subst eo54) | (go_at_call 10; (with_reducible refine (credenzalaw9_awake.calls  t108 _ A52.out).mono ?_); rintro e w55 ⟨rfl, hb⟩; have n0_ := Aside0.mk (Kd.R_below (by (with_reducible repeat (first | apply Kd.R_alloc | apply Kd.R_drewN | apply Kd.R_drew)); exact HO107.out) hb); have n1_ := Aside0.mk (below_step (by repeat (first | (with_reducible first | exact HB.out | apply below_alloc | apply pw_below_drewN | apply below_drew1) | exact HB.out)) hb); clear HO107; clear HB; have HO107 := n0_; have HB := n1_; clear n0_ n1_; (try clear hb); (try clear hb2); (try clear hk); (try clear hi)))
                  go_ret
                  exact ⟨by first | rfl | (simp [errW_none, errW_some] <;> rfl) | (simp [*, errW_none, errW_some] <;> rfl), by repeat (first | (with_reducible first | exact HB.out | apply below_alloc | apply pw_below_drewN | apply below_drew1) | exact HB.out)⟩
                · rw [if_neg c51] at H
                  have c51b0 : ((t104.length : Int) == 0) = false := beq_eq_false_iff_ne.mpr c51
                  have c51b1 : ((t104.length : Int) != 0) = true := bne_iff_ne.mpr c51
                  have c51b2 : ¬ (t104 = []) := fun h_ => c51 (by rw [h_]; rfl)
                  obtain rfl := Option.some.inj H
                  go_wp2_with (first | ((with_reducible refine gate_callee (f := 12) rfl ?_); refine goesL_ (some 35) rfl rfl Tryd.func12 (by kernel_rfl) rfl #[.string x3_7] rfl (by (try simp only [List.map_toArray, List.map_cons, List.map_nil]); first | done | rfl | (simp only [List.length_drop, List.length_take]; rfl)) ?_; (with_reducible refine (name_Split.calls x3_7 t104 false _ A10.out).mono ?_); rintro e w56 ⟨v106, rfl, ho0, hb⟩; refine ⟨_, rfl, ?_⟩; have n0_ := Aside0.mk (Kd.R_lower ho0 (below_size (by repeat (first | (with_reducible first | exact HB.out | apply below_alloc | apply pw_below_drewN | apply below_drew1) | exact HB.out)))); have n1_ := Aside0.mk (below_step (by repeat (first | (with_reducible first | exact HB.out | apply below_alloc | apply pw_below_drewN | apply below_drew1) | exact HB.out)) hb); clear HB; have HO107 := n0_; have HB := n1_; clear n0_ n1_; (try clear hb); (try clear hb2); (try clear hk); (try clear hi); (try clear ho0); obtain ⟨Ao57, co57, eo57⟩ := Kd.R_slice HO107.out; subst eo57))
                  go_ret
                  exact ⟨by first | rfl | (simp [errW_none, errW_some] <;> rfl) | (simp [*, errW_none, errW_some] <;> rfl), by repeat (first | (with_reducible first | exact HB.out | apply below_alloc | apply pw_below_drewN | apply below_drew1) | exact HB.out)⟩

/-- THE ONE PURE STATEMENT of credenzalaw9_NameDeep: yours. -/
def credenzalaw9_NameDeep.Pure : Prop := ∀ (a0 : Int), (Lit.int .i64 a0).wf = true → ∃ k, credenzalaw9_NameDeep.f k a0 = some true
theorem credenzalaw9_NameDeep.walk (P : credenzalaw9_NameDeep.Pure) (a0 : Int) (w : World) (w0 : (Lit.int .i64 a0).wf = true) :
    Calls Tryd.prog 7 #[.int .i64 a0] w fun e w' => e = .returned (.bool true) ∧ Below w.heap.size w w' := by
  obtain ⟨k, h⟩ := P a0 w0
  refine (credenzalaw9_NameDeep.calls k a0 true w h).mono ?_
  rintro e w' ⟨rfl, hd⟩
  exact ⟨rfl, hd⟩

end Go.Proofs.YtpalgkfilpkgeaaDoor.PNameDeep

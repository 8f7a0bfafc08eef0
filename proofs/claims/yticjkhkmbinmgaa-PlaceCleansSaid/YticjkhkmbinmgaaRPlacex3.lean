-- Laid by a program of this session out of the translation (the kit's printing program, with some contracts given by hand). Lean checks it.
import Derived.Test.YticjkhkmbinmgaaRPlacex0
import Derived.Test.YticjkhkmbinmgaaRPlacex1
import Derived.Test.YticjkhkmbinmgaaRPlacex2
namespace Go.Proofs.Yticjkhkmbinmgaa.RPlace
open Go.Proofs.Yticjkhkmbinmgaa.QClean Go.Proofs.Yticjkhkmbinmgaa.GivenA Go.Proofs.Yticjkhkmbinmgaa.GivenB Go.Proofs.Yticjkhkmbinmgaa.GivenD Go.RowKit Go.Proofs.YticjkhkmbinmgaaW.PrintWords Go.Proofs.YticjkhkmbinmgaaW.PrintLast Go.Proofs.YticjkhkmbinmgaaW.PrintMore
attribute [local go_sem] max2_int min2_int max_two min_two max_three min_three max_four min_four   -- for this text's walks alone
set_option linter.unusedVariables false
set_option linter.unusedSimpArgs false

/-! ### place_Take: function 15 -/
mutual
def place_Take.l0 : Nat → List (S25) → List (S25) → Int → Int → Int → Int → Option ((List (S25)))
  | 0, _, _, _, _, _, _ => none
  | k + 1, x6, x18, x19, x20, x129000, x129001 => if x20 < x19 then (if 0 ≤ x20 then (if x20 < (x18.length : Int) then ((place_lies.f k ((rd_T25 x18 x20).f0) ((rd_T25 x18 x20).f1) x129000 x129001).bind fun t137 => (if t137 = 0 then (if x6.length < 8796093022208 then (place_Take.l0 k (x6 ++ [(⟨(rd_T25 x18 x20).f0, (rd_T25 x18 x20).f1⟩ : S25)]) x18 x19 (wrap64 (x20 + 1)) x129000 x129001) else (none)) else (if t137 = 3 then (place_Take.j1 k x6 t137 x18 x19 x20 t137 (t137 == 3) x129000 x129001 ((rd_T25 x18 x20).f0) ((rd_T25 x18 x20).f1)) else (place_Take.j1 k x6 t137 x18 x19 x20 t137 (t137 == 1) x129000 x129001 ((rd_T25 x18 x20).f0) ((rd_T25 x18 x20).f1))))) else (none)) else (none)) else ((slices_ClipR.f x6).bind fun t132 => (some t132))
def place_Take.j1 : Nat → List (S25) → Int → List (S25) → Int → Int → Int → Bool → Int → Int → Int → Int → Option ((List (S25)))
  | 0, _, _, _, _, _, _, _, _, _, _, _ => none
  | k + 1, x6, x9, x18, x19, x20, x27, x30, x129000, x129001, x137000, x137001 => if x30 = true then (if x6.length < 8796093022208 then ((some (x6 ++ [(⟨x137000, x129000⟩ : S25)] : List (S25))).bind fun y141 => (if x9 = 1 then (place_Take.l0 k y141 x18 x19 (wrap64 (x20 + 1)) x129000 x129001) else (if y141.length < 8796093022208 then (place_Take.l0 k (y141 ++ [(⟨x129001, x137001⟩ : S25)]) x18 x19 (wrap64 (x20 + 1)) x129000 x129001) else (none)))) else (none)) else (if x27 = 2 then (if x6.length < 8796093022208 then (place_Take.l0 k (x6 ++ [(⟨x129001, x137001⟩ : S25)]) x18 x19 (wrap64 (x20 + 1)) x129000 x129001) else (none)) else (place_Take.l0 k x6 x18 x19 (wrap64 (x20 + 1)) x129000 x129001))
end
def place_Take.f (k : Nat) (l0 : List (S25)) (a1_0 : Int) (a1_1 : Int) : Option ((List (S25))) := (place_Clean.f k l0).bind fun t129 => (if a1_1 ≤ a1_0 then (some t129) else (place_Take.l0 k ([] : List (S25)) t129 (t129.length : Int) 0 a1_0 a1_1))
theorem place_Take.mono_l : ∀ k, (∀ y0 y1 y2 y3 y4 y5, LeO (place_Take.l0 k y0 y1 y2 y3 y4 y5) (place_Take.l0 (k + 1) y0 y1 y2 y3 y4 y5)) ∧ (∀ y0 y1 y2 y3 y4 y5 y6 y7 y8 y9 y10, LeO (place_Take.j1 k y0 y1 y2 y3 y4 y5 y6 y7 y8 y9 y10) (place_Take.j1 (k + 1) y0 y1 y2 y3 y4 y5 y6 y7 y8 y9 y10))
  | 0 => ⟨fun _ _ _ _ _ _ r h => by simp [place_Take.l0] at h, fun _ _ _ _ _ _ _ _ _ _ _ r h => by simp [place_Take.j1] at h⟩
  | k + 1 => by
    obtain ⟨ih0, ih1⟩ := place_Take.mono_l k
    refine ⟨?_, ?_⟩
    · intro y0 y1 y2 y3 y4 y5
      unfold place_Take.l0
      repeat' first
      | (with_reducible exact ih0 _ _ _ _ _ _)
      | (with_reducible exact ih1 _ _ _ _ _ _ _ _ _ _ _)
      | (with_reducible exact place_Clean.mono _ _)
      | (with_reducible exact place_lies.mono _ _ _ _ _)
      | (with_reducible exact LeO.refl _)
      | (with_reducible exact LeO.none _)
      | (with_reducible refine LeO.ite ?_ ?_)
      | (with_reducible refine LeO.bind ?_ (fun _ => ?_))
      | exact ih0 _ _ _ _ _ _
      | exact ih1 _ _ _ _ _ _ _ _ _ _ _
      | exact place_Clean.mono _ _
      | exact place_lies.mono _ _ _ _ _
      | exact LeO.none _
      | refine LeO.ite ?_ ?_
      | refine LeO.bind ?_ (fun _ => ?_)
    · intro y0 y1 y2 y3 y4 y5 y6 y7 y8 y9 y10
      unfold place_Take.j1
      repeat' first
      | (with_reducible exact ih0 _ _ _ _ _ _)
      | (with_reducible exact ih1 _ _ _ _ _ _ _ _ _ _ _)
      | (with_reducible exact place_Clean.mono _ _)
      | (with_reducible exact place_lies.mono _ _ _ _ _)
      | (with_reducible exact LeO.refl _)
      | (with_reducible exact LeO.none _)
      | (with_reducible refine LeO.ite ?_ ?_)
      | (with_reducible refine LeO.bind ?_ (fun _ => ?_))
      | exact ih0 _ _ _ _ _ _
      | exact ih1 _ _ _ _ _ _ _ _ _ _ _
      | exact place_Clean.mono _ _
      | exact place_lies.mono _ _ _ _ _
      | exact LeO.none _
      | refine LeO.ite ?_ ?_
      | refine LeO.bind ?_ (fun _ => ?_)
theorem place_Take.mono : ∀ a0 a1 a2 k, LeO (place_Take.f k a0 a1 a2) (place_Take.f (k + 1) a0 a1 a2) := by
  intro a0 a1 a2 k
  obtain ⟨ih0, ih1⟩ := place_Take.mono_l k
  unfold place_Take.f
  repeat' first
      | (with_reducible exact ih0 _ _ _ _ _ _)
      | (with_reducible exact ih1 _ _ _ _ _ _ _ _ _ _ _)
      | (with_reducible exact place_Clean.mono _ _)
      | (with_reducible exact place_lies.mono _ _ _ _ _)
      | (with_reducible exact LeO.refl _)
      | (with_reducible exact LeO.none _)
      | (with_reducible refine LeO.ite ?_ ?_)
      | (with_reducible refine LeO.bind ?_ (fun _ => ?_))
      | exact ih0 _ _ _ _ _ _
      | exact ih1 _ _ _ _ _ _ _ _ _ _ _
      | exact place_Clean.mono _ _
      | exact place_lies.mono _ _ _ _ _
      | exact LeO.none _
      | refine LeO.ite ?_ ?_
      | refine LeO.bind ?_ (fun _ => ?_)
set_option maxHeartbeats 8000000 in
set_option maxRecDepth 100000 in
theorem place_Take.calls (k : Nat) (A0 : Option Addr) (c0 : Nat) (l0 : List (S25)) (a1_0 : Int) (a1_1 : Int) (r : List (S25)) (w : World) (hr0 : Kd.C k25 w A0 l0.length l0) (hc0 : l0.length ≤ c0) (h : place_Take.f k l0 a1_0 a1_1 = some r) :
    Calls Try.prog 15 #[.slice A0 l0.length c0, .agg #[.int .i64 a1_0, .int .i64 a1_1]] w fun e w' => ∃ v0_ : Value, e = .returned (v0_) ∧ Kd.V k25 25 w' w.heap.size (fun k_ => (w.heap.size ≤ k_)) v0_ r ∧ Below w.heap.size w w' := by
  have hu25 := Try.underlying25
  have HR0 := Aside0.mk hr0
  have HC0 := Aside0.mk hc0
  clear hr0 hc0
  have HB := Aside0.mk (Below.refl w.heap.size w)
  have H : ((place_Clean.f k l0).bind fun t129 => (if a1_1 ≤ a1_0 then (some t129) else (place_Take.l0 k ([] : List (S25)) t129 (t129.length : Int) 0 a1_0 a1_1))) = some r := h
  clear h
  replace H := Option.bind_eq_some_iff.mp H
  obtain ⟨t129, A30, H⟩ := H
  replace H : (if a1_1 ≤ a1_0 then (some t129) else (place_Take.l0 k ([] : List (S25)) t129 (t129.length : Int) 0 a1_0 a1_1)) = some r := H
  have A3 := Aside0.mk A30
  clear A30
  by_cases c4 : a1_1 ≤ a1_0
  · rw [if_pos c4] at H
    have c4b0 : decide (a1_1 ≤ a1_0) = true := decide_eq_true c4
    clear c4
    obtain rfl := Option.some.inj H
    go_enter Try.func15, Try.ntmps15
    go_wp2_with (first | ((with_reducible refine gate_dst (N := 3) rfl ?_); refine box_event ?hg (N := 3) ?hd (cs := #[.int .i64 a1_0, .int .i64 a1_1]) (t := 25) ?hr ?_; (case hd => rfl); (case hg => rfl); (case hr => first | (go_simp; done) | (go_simp; rfl)); intro gb128 hg w5 hbox hb; have n0_ := Aside0.mk (below_step (by repeat (first | (with_reducible first | exact HB.out | apply below_alloc | apply pw_below_drewN | apply below_drew1) | exact HB.out)) hb); have n1_ := Aside0.mk (hbox); have n2_ := Aside0.mk ((by rw [hg]; exact (below_size (by repeat (first | (with_reducible first | exact HB.out | apply below_alloc | apply pw_below_drewN | apply below_drew1) | exact HB.out))) : w.heap.size ≤ gb128)); have n3_ := Aside0.mk ((by rw [hg]; exact (below_size (by repeat (first | (with_reducible first | exact HB.out | apply below_alloc | apply pw_below_drewN | apply below_drew1) | exact HB.out))) : w.heap.size ≤ gb128)); clear HB; have HB := n0_; have BK128 := n1_; have GW128 := n2_; have GE128 := n3_; clear n0_ n1_ n2_ n3_; clear hb hbox hg) | ((with_reducible refine gate_callee (f := 13) rfl ?_); refine goesL_ (some 11) rfl rfl Try.func13 (by kernel_rfl) rfl #[.slice A0 l0.length c0] rfl (by (try simp only [List.map_toArray, List.map_cons, List.map_nil]); first | done | rfl | (simp only [List.length_drop, List.length_take]; rfl)) ?_; (with_reducible refine (place_Clean.calls k _ _ l0 t129 _ ?side1 ?side2 A3.out).mono ?_); (case side1 => repeat (first | exact (Kd.C_below HR0.out HB.out) | (with_reducible refine Kd.C_alloc ?_ _) | (with_reducible refine Kd.C_drewN ?_ _) | (with_reducible refine Kd.C_drew ?_))); (case side2 => exact HC0.out); rintro e w6 ⟨v130, rfl, ho0, hb⟩; refine ⟨_, rfl, ?_⟩; have n0_ := Aside0.mk (Kd.V_lower (Kd.V_mono (ok' := fun k_ => (w.heap.size ≤ k_) ∧ k_ ≠ gb128) ho0 (fun k_ hk_ => ⟨(Nat.le_trans (below_size (by repeat (first | (with_reducible first | exact HB.out | apply below_alloc | apply pw_below_drewN | apply below_drew1 | refine below_set ?_ GE128.out) | exact HB.out))) hk_), (Kd.freshB (g := gb128) (o := .cells #[.int .i64 a1_0, .int .i64 a1_1] 25 (0, 0)) (by (with_reducible repeat (first | refine blk_drewN ?_ _ | refine blk_drew ?_ | refine blk_alloc ?_ _)); exact BK128.out) k_ hk_)⟩)) (below_size (by repeat (first | (with_reducible first | exact HB.out | apply below_alloc | apply pw_below_drewN | apply below_drew1 | refine below_set ?_ GE128.out) | exact HB.out)))); have n1_ := Aside0.mk (blk_below (g := gb128) (o := .cells #[.int .i64 a1_0, .int .i64 a1_1] 25 (0, 0)) (by (with_reducible repeat (first | refine blk_drewN ?_ _ | refine blk_drew ?_ | refine blk_alloc ?_ _)); exact BK128.out) hb); have n2_ := Aside0.mk (below_step (by repeat (first | (with_reducible first | exact HB.out | apply below_alloc | apply pw_below_drewN | apply below_drew1 | refine below_set ?_ GE128.out) | exact HB.out)) hb); clear BK128; clear HB; have HO131 := n0_; have BK128 := n1_; have HB := n2_; clear n0_ n1_ n2_; (try clear hb); (try clear hb2); (try clear hk); (try clear hi); (try clear ho0); have hcz7_0 : w6.cell? ⟨gb128, 0, none⟩ = some (.int .i64 a1_0) := (blk_cell BK128.out 0).trans rfl; have hcz7_1 : w6.cell? ⟨gb128, 1, none⟩ = some (.int .i64 a1_1) := (blk_cell BK128.out 1).trans rfl; have hfz7_0 := blk_frozen BK128.out 0; have hfz7_1 := blk_frozen BK128.out 1))
    go_ret
    exact ⟨_, by first | rfl | (simp [errW_none, errW_some] <;> rfl) | (simp [*, errW_none, errW_some] <;> rfl), by (with_reducible repeat (first | apply Kd.V_alloc | apply Kd.V_drewN | apply Kd.V_drew)); exact Kd.V_mono HO131.out (fun _ hk => hk.1), by repeat (first | (with_reducible first | exact HB.out | apply below_alloc | apply pw_below_drewN | apply below_drew1 | refine below_set ?_ GE128.out) | exact HB.out)⟩
  · rw [if_neg c4] at H
    have c4b0 : decide (a1_1 ≤ a1_0) = false := decide_eq_false c4
    clear c4
    have H' := Aside0.mk H
    clear H
    go_enter Try.func15, Try.ntmps15
    go_wp2_with (first | ((with_reducible refine gate_dst (N := 3) rfl ?_); refine box_event ?hg (N := 3) ?hd (cs := #[.int .i64 a1_0, .int .i64 a1_1]) (t := 25) ?hr ?_; (case hd => rfl); (case hg => rfl); (case hr => first | (go_simp; done) | (go_simp; rfl)); intro gb128 hg w8 hbox hb; have n0_ := Aside0.mk (below_step (by repeat (first | (with_reducible first | exact HB.out | apply below_alloc | apply pw_below_drewN | apply below_drew1) | exact HB.out)) hb); have n1_ := Aside0.mk (hbox); have n2_ := Aside0.mk ((by rw [hg]; exact (below_size (by repeat (first | (with_reducible first | exact HB.out | apply below_alloc | apply pw_below_drewN | apply below_drew1) | exact HB.out))) : w.heap.size ≤ gb128)); have n3_ := Aside0.mk ((by rw [hg]; exact (below_size (by repeat (first | (with_reducible first | exact HB.out | apply below_alloc | apply pw_below_drewN | apply below_drew1) | exact HB.out))) : w.heap.size ≤ gb128)); clear HB; have HB := n0_; have BK128 := n1_; have GW128 := n2_; have GE128 := n3_; clear n0_ n1_ n2_ n3_; clear hb hbox hg) | ((with_reducible refine gate_callee (f := 13) rfl ?_); refine goesL_ (some 11) rfl rfl Try.func13 (by kernel_rfl) rfl #[.slice A0 l0.length c0] rfl (by (try simp only [List.map_toArray, List.map_cons, List.map_nil]); first | done | rfl | (simp only [List.length_drop, List.length_take]; rfl)) ?_; (with_reducible refine (place_Clean.calls k _ _ l0 t129 _ ?side1 ?side2 A3.out).mono ?_); (case side1 => repeat (first | exact (Kd.C_below HR0.out HB.out) | (with_reducible refine Kd.C_alloc ?_ _) | (with_reducible refine Kd.C_drewN ?_ _) | (with_reducible refine Kd.C_drew ?_))); (case side2 => exact HC0.out); rintro e w9 ⟨v130, rfl, ho0, hb⟩; refine ⟨_, rfl, ?_⟩; have n0_ := Aside0.mk (Kd.V_lower (Kd.V_mono (ok' := fun k_ => (w.heap.size ≤ k_) ∧ k_ ≠ gb128) ho0 (fun k_ hk_ => ⟨(Nat.le_trans (below_size (by repeat (first | (with_reducible first | exact HB.out | apply below_alloc | apply pw_below_drewN | apply below_drew1 | refine below_set ?_ GE128.out) | exact HB.out))) hk_), (Kd.freshB (g := gb128) (o := .cells #[.int .i64 a1_0, .int .i64 a1_1] 25 (0, 0)) (by (with_reducible repeat (first | refine blk_drewN ?_ _ | refine blk_drew ?_ | refine blk_alloc ?_ _)); exact BK128.out) k_ hk_)⟩)) (below_size (by repeat (first | (with_reducible first | exact HB.out | apply below_alloc | apply pw_below_drewN | apply below_drew1 | refine below_set ?_ GE128.out) | exact HB.out)))); have n1_ := Aside0.mk (blk_below (g := gb128) (o := .cells #[.int .i64 a1_0, .int .i64 a1_1] 25 (0, 0)) (by (with_reducible repeat (first | refine blk_drewN ?_ _ | refine blk_drew ?_ | refine blk_alloc ?_ _)); exact BK128.out) hb); have n2_ := Aside0.mk (below_step (by repeat (first | (with_reducible first | exact HB.out | apply below_alloc | apply pw_below_drewN | apply below_drew1 | refine below_set ?_ GE128.out) | exact HB.out)) hb); clear BK128; clear HB; have HO131 := n0_; have BK128 := n1_; have HB := n2_; clear n0_ n1_ n2_; (try clear hb); (try clear hb2); (try clear hk); (try clear hi); (try clear ho0); have hcz10_0 : w9.cell? ⟨gb128, 0, none⟩ = some (.int .i64 a1_0) := (blk_cell BK128.out 0).trans rfl; have hcz10_1 : w9.cell? ⟨gb128, 1, none⟩ = some (.int .i64 a1_1) := (blk_cell BK128.out 1).trans rfl; have hfz10_0 := blk_frozen BK128.out 0; have hfz10_1 := blk_frozen BK128.out 1; obtain ⟨Ao11, co11, eo11⟩ := Kd.V_slice HO131.out; subst eo11))
    go_loopg [6, 20] k (fun kq v6 v20 w' => ∃ (x6_1 : List (S25)) (x20_1 : Int), v20 = .int .i64 x20_1 ∧ Aside0 (place_Take.l0 kq x6_1 t129 (t129.length : Int) x20_1 a1_0 a1_1 = some r) ∧ Aside0 (kq ≤ k) ∧ Aside0 (Kd.R k25 25 w' w.heap.size (fun k_ => (w.heap.size ≤ k_) ∧ k_ ≠ gb128) v6 x6_1) ∧ Aside0 (Kd.V k25 25 w' w.heap.size (fun k_ => (w.heap.size ≤ k_) ∧ some k_ ≠ (v6 : Value).ownBlock ∧ k_ ≠ gb128) (.slice Ao11 t129.length co11) t129) ∧ Aside0 (w'.heap[gb128]? = some (.cells #[.int .i64 a1_0, .int .i64 a1_1] 25 (0, 0))) ∧ Aside0 (Below w.heap.size w w'))
    case atStart => exact ⟨(([] : List (S25))), (0), (by first | rfl | (simp; done) | (simp [*]; done)), H', ⟨Nat.le_refl _⟩, ⟨by first | exact Kd.R_nil _ _ _ _ _ | exact Kd.N_nil _ _ _ _ _ | exact Kd.V_nil _ _ _ _ _ | exact Kd.Q_nil _ _ _ _ _ | exact Kd.S_nil _ _ _ _ _⟩, ⟨by (with_reducible repeat (first | apply Kd.V_alloc | apply Kd.V_drewN | apply Kd.V_drew)); exact Kd.V_mono HO131.out (fun _ hk => ⟨hk.1, ⟨(by simp [Value.ownBlock]), hk.2⟩⟩)⟩, ⟨by (with_reducible repeat (first | refine blk_drewN ?_ _ | refine blk_drew ?_ | refine blk_alloc ?_ _)); exact BK128.out⟩, ⟨by repeat (first | (with_reducible first | exact HB.out | apply below_alloc | apply pw_below_drewN | apply below_drew1 | refine below_set ?_ GE128.out) | exact HB.out)⟩⟩
    case round =>
      clear H'
      try clear c1
      try clear p2
      try clear c4
      try clear c4b0
      try clear hcz10_0
      try clear hcz10_1
      try clear hcz7_0
      try clear hcz7_1
      try clear hfz10_0
      try clear hfz10_1
      try clear hfz7_0
      try clear hfz7_1
      obtain ⟨x6_1, x20_1, rfl, HA, HK1, HO_6, HO_18, BK128, HB⟩ := hrel
      cases gk with
      | zero => exact absurd HA.out (by simp [place_Take.l0])
      | succ k1 =>
        have H := HA.out
        clear HA
        simp only [place_Take.l0] at H
        by_cases c12 : x20_1 < (t129.length : Int)
        · rw [if_pos c12] at H
          have c12b0 : decide (x20_1 < (t129.length : Int)) = true := decide_eq_true c12
          clear c12
          by_cases c13 : 0 ≤ x20_1
          · rw [if_pos c13] at H
            have c13b0 : decide (0 ≤ x20_1) = true := decide_eq_true c13
            clear c13
            by_cases c14 : x20_1 < (t129.length : Int)
            · rw [if_pos c14] at H
              have c14b0 : decide (x20_1 < (t129.length : Int)) = true := decide_eq_true c14
              clear c14
              replace H := Option.bind_eq_some_iff.mp H
              obtain ⟨t137, A150, H⟩ := H
              replace H : (if t137 = 0 then (if x6_1.length < 8796093022208 then (place_Take.l0 k1 (x6_1 ++ [(⟨(rd_T25 t129 x20_1).f0, (rd_T25 t129 x20_1).f1⟩ : S25)]) t129 (t129.length : Int) (wrap64 (x20_1 + 1)) a1_0 a1_1) else (none)) else (if t137 = 3 then (place_Take.j1 k1 x6_1 t137 t129 (t129.length : Int) x20_1 t137 (t137 == 3) a1_0 a1_1 ((rd_T25 t129 x20_1).f0) ((rd_T25 t129 x20_1).f1)) else (place_Take.j1 k1 x6_1 t137 t129 (t129.length : Int) x20_1 t137 (t137 == 1) a1_0 a1_1 ((rd_T25 t129 x20_1).f0) ((rd_T25 t129 x20_1).f1)))) = some r := H
              have A15 := Aside0.mk A150
              clear A150
              by_cases c16 : t137 = 0
              · rw [if_pos c16] at H
                have c16b0 : (t137 == 0) = true := beq_iff_eq.mpr c16
                have c16b1 : (t137 != 0) = false := bne_eq_false_iff_eq.mpr c16
                clear c16
                by_cases c17 : x6_1.length < 8796093022208
                · rw [if_pos c17] at H
                  have LMc17 := Aside0.mk c17
                  clear c17
                  obtain ⟨y138, hy138⟩ : ∃ y_ : List (S25), y_ = (x6_1 ++ [(⟨(rd_T25 t129 x20_1).f0, (rd_T25 t129 x20_1).f1⟩ : S25)]) := ⟨_, rfl⟩
                  replace H : (place_Take.l0 k1 y138 t129 (t129.length : Int) (wrap64 (x20_1 + 1)) a1_0 a1_1) = some r := by first | (rw [hy138]; with_reducible exact H) | (have H2_ := (Option.bind_some _ _).symm.trans H; rw [hy138]; with_reducible exact H2_) | (have H2_ := (Option.bind_some _ _).symm.trans H; with_reducible exact H2_) | with_reducible exact H | (rw [hy138]; exact H) | exact H
                  have Ny138 := Aside0.mk hy138
                  clear hy138
                  have H' := Aside0.mk H
                  clear H
                  have p135 : 0 ≤ (x20_1 : Int) := of_decide_eq_true (by first | (with_reducible assumption) | assumption)
                  have q135 : x20_1 < (t129.length : Int) := of_decide_eq_true (by first | (with_reducible assumption) | assumption)
                  obtain ⟨ad135, e135, hx135_0, hx135_1⟩ := at_T25 (Kd.V_reads' HO_18.out).2.2 x20_1 p135 q135
                  cases e135
                  replace p135 := eq_true p135
                  replace q135 := eq_true q135
                  go_wp2_with (first | ((with_reducible refine gate_dst (N := 8) rfl ?_); refine box_event ?hg (N := 8) ?hd (cs := #[.int .i64 0, .int .i64 0]) (t := 25) ?hr ?_; (case hd => rfl); (case hg => rfl); (case hr => first | (go_simp; done) | (go_simp; rfl)); intro gb136 hg w18 hbox hb; have n0_ := Aside0.mk (Kd.R_below (Kd.R_elderB (by (with_reducible repeat (first | apply Kd.R_alloc | apply Kd.R_drewN | apply Kd.R_drew)); exact HO_6.out) gb136 (Nat.le_of_eq hg.symm)) hb); have n1_ := Aside0.mk (Kd.V_below (Kd.V_elderB (by (with_reducible repeat (first | apply Kd.V_alloc | apply Kd.V_drewN | apply Kd.V_drew)); exact HO_18.out) gb136 (Nat.le_of_eq hg.symm)) hb); have n2_ := Aside0.mk (blk_below (g := gb128) (o := .cells #[.int .i64 a1_0, .int .i64 a1_1] 25 (0, 0)) (by (with_reducible repeat (first | refine blk_drewN ?_ _ | refine blk_drew ?_ | refine blk_alloc ?_ _)); exact BK128.out) hb); have n3_ := Aside0.mk (below_step (by repeat (first | (with_reducible first | exact HB.out | apply below_alloc | apply pw_below_drewN | apply below_drew1 | refine below_set ?_ GE128.out) | exact HB.out)) hb); have n4_ := Aside0.mk (hbox); have n5_ := Aside0.mk ((by rw [hg]; exact (below_size (by repeat (first | (with_reducible first | exact HB.out | apply below_alloc | apply pw_below_drewN | apply below_drew1 | refine below_set ?_ GE128.out) | exact HB.out))) : w.heap.size ≤ gb136)); have n6_ := Aside0.mk ((by rw [hg]; exact (below_size (by repeat (first | (with_reducible first | exact HB.out | apply below_alloc | apply pw_below_drewN | apply below_drew1 | refine below_set ?_ GE128.out) | exact HB.out))) : w.heap.size ≤ gb136)); have n7_ := Aside0.mk ((by rw [hg]; exact Nat.ne_of_lt (blk_lt (g := gb128) (o := .cells #[.int .i64 a1_0, .int .i64 a1_1] 25 (0, 0)) (by (with_reducible repeat (first | refine blk_drewN ?_ _ | refine blk_drew ?_ | refine blk_alloc ?_ _)); exact BK128.out)) : gb128 ≠ gb136)); have n8_ := Aside0.mk ((by rw [hg]; exact Nat.ne_of_gt (blk_lt (g := gb128) (o := .cells #[.int .i64 a1_0, .int .i64 a1_1] 25 (0, 0)) (by (with_reducible repeat (first | refine blk_drewN ?_ _ | refine blk_drew ?_ | refine blk_alloc ?_ _)); exact BK128.out)) : gb136 ≠ gb128)); clear HO_6; clear HO_18; clear BK128; clear HB; have HO_6 := n0_; have HO_18 := n1_; have BK128 := n2_; have HB := n3_; have BK136 := n4_; have GW136 := n5_; have GE136 := n6_; have NB128_136 := n7_; have NB136_128 := n8_; clear n0_ n1_ n2_ n3_ n4_ n5_ n6_ n7_ n8_; clear hb hbox hg; have hnb19 := NB136_128.out; have hnc19 := NB128_136.out; have hcz20_0 : w18.cell? ⟨gb136, 0, none⟩ = some (.int .i64 0) := (blk_cell BK136.out 0).trans rfl; have hcz20_1 : w18.cell? ⟨gb136, 1, none⟩ = some (.int .i64 0) := (blk_cell BK136.out 1).trans rfl; have hfz20_0 := blk_frozen BK136.out 0; have hfz20_1 := blk_frozen BK136.out 1; have hcz21_0 : w18.cell? ⟨gb128, 0, none⟩ = some (.int .i64 a1_0) := (blk_cell BK128.out 0).trans rfl; have hcz21_1 : w18.cell? ⟨gb128, 1, none⟩ = some (.int .i64 a1_1) := (blk_cell BK128.out 1).trans rfl; have hfz21_0 := blk_frozen BK128.out 0; have hfz21_1 := blk_frozen BK128.out 1) | ((with_reducible refine gate_callee (f := 28) rfl ?_); refine goesL_ (some 26) rfl rfl Try.func28 (by kernel_rfl) rfl #[.agg #[.int .i64 ((rd_T25 t129 x20_1).f0), .int .i64 ((rd_T25 t129 x20_1).f1)], .agg #[.int .i64 a1_0, .int .i64 a1_1]] rfl (by (try simp only [List.map_toArray, List.map_cons, List.map_nil]); first | done | rfl | (simp only [List.length_drop, List.length_take]; rfl)) ?_; (with_reducible refine (place_lies.calls k1 ((rd_T25 t129 x20_1).f0) ((rd_T25 t129 x20_1).f1) a1_0 a1_1 t137 _ A15.out).mono ?_); rintro e w22 ⟨rfl, hb⟩; refine ⟨_, rfl, ?_⟩; have n0_ := Aside0.mk (Kd.R_below (by (with_reducible repeat (first | apply Kd.R_alloc | apply Kd.R_drewN | apply Kd.R_drew)); exact (Kd.R_mono (Kd.R_far (p := ⟨gb136, 1, none⟩) (Kd.R_far (p := ⟨gb136, 0, none⟩) (Kd.R_mono HO_6.out (fun k_ hk => (⟨hk, hk.2⟩ : _ ∧ k_ ≠ gb136))) (fun _ hk => hk.2) (.int .i64 ((rd_T25 t129 x20_1).f0))) (fun _ hk => hk.2) (.int .i64 ((rd_T25 t129 x20_1).f1))) (fun _ h_ => h_.1))) hb); have n1_ := Aside0.mk (Kd.V_below (by (with_reducible repeat (first | apply Kd.V_alloc | apply Kd.V_drewN | apply Kd.V_drew)); exact (Kd.V_mono (Kd.V_far (p := ⟨gb136, 1, none⟩) (Kd.V_far (p := ⟨gb136, 0, none⟩) (Kd.V_mono HO_18.out (fun k_ hk => (⟨hk, hk.2⟩ : _ ∧ k_ ≠ gb136))) (fun _ hk => hk.2) (.int .i64 ((rd_T25 t129 x20_1).f0))) (fun _ hk => hk.2) (.int .i64 ((rd_T25 t129 x20_1).f1))) (fun _ h_ => h_.1))) hb); have n2_ := Aside0.mk (blk_below (g := gb128) (o := .cells #[.int .i64 a1_0, .int .i64 a1_1] 25 (0, 0)) (by (with_reducible repeat (first | refine blk_drewN ?_ _ | refine blk_drew ?_ | refine blk_alloc ?_ _)); refine blk_far ?_ NB128_136.out _; (with_reducible repeat (first | refine blk_drewN ?_ _ | refine blk_drew ?_ | refine blk_alloc ?_ _)); refine blk_far ?_ NB128_136.out _; (with_reducible repeat (first | refine blk_drewN ?_ _ | refine blk_drew ?_ | refine blk_alloc ?_ _)); exact BK128.out) hb); have n3_ := Aside0.mk (blk_below (g := gb136) (o := .cells #[.int .i64 ((rd_T25 t129 x20_1).f0), .int .i64 ((rd_T25 t129 x20_1).f1)] 25 (0, 0)) (by (with_reducible repeat (first | refine blk_drewN ?_ _ | refine blk_drew ?_ | refine blk_alloc ?_ _)); refine blk_put (cs := #[.int .i64 ((rd_T25 t129 x20_1).f0), .int .i64 0]) ?_ 1 _ rfl; (with_reducible repeat (first | refine blk_drewN ?_ _ | refine blk_drew ?_ | refine blk_alloc ?_ _)); refine blk_put (cs := #[.int .i64 0, .int .i64 0]) ?_ 0 _ rfl; (with_reducible repeat (first | refine blk_drewN ?_ _ | refine blk_drew ?_ | refine blk_alloc ?_ _)); exact BK136.out) hb); have n4_ := Aside0.mk (below_step (by repeat (first | (with_reducible first | exact HB.out | apply below_alloc | apply pw_below_drewN | apply below_drew1 | refine below_set ?_ GE128.out | refine below_set ?_ GE136.out) | exact HB.out)) hb); clear HO_6; clear HO_18; clear BK128; clear BK136; clear HB; have HO_6 := n0_; have HO_18 := n1_; have BK128 := n2_; have BK136 := n3_; have HB := n4_; clear n0_ n1_ n2_ n3_ n4_; (try clear hb); (try clear hb2); (try clear hk); (try clear hi); have hcz23_0 : w22.cell? ⟨gb136, 0, none⟩ = some (.int .i64 ((rd_T25 t129 x20_1).f0)) := (blk_cell BK136.out 0).trans rfl; have hcz23_1 : w22.cell? ⟨gb136, 1, none⟩ = some (.int .i64 ((rd_T25 t129 x20_1).f1)) := (blk_cell BK136.out 1).trans rfl; have hfz23_0 := blk_frozen BK136.out 0; have hfz23_1 := blk_frozen BK136.out 1) | ((with_reducible refine gate_builtin (b := .append) (xs := #[.tmp 35, .tmp 37]) rfl ?_); at_builtin; refine Kd.R_append k25 (w0 := w) w.heap.size rfl (.tmp 35) (.tmp 37) 22 25 (.agg #[(.int .i64 0), (.int .i64 0)]) 16 rfl Try.underlying22 info25 rfl (by decide) (by omega) u6 x6_1 (⟨(rd_T25 t129 x20_1).f0, (rd_T25 t129 x20_1).f1⟩ : S25) [.int .i64 ((rd_T25 t129 x20_1).f0), .int .i64 ((rd_T25 t129 x20_1).f1)] (fun k_ => (w.heap.size ≤ k_) ∧ k_ ≠ gb128 ∧ k_ ≠ gb136) (fun _ => False) rfl rfl ?aP (fun _ hk => hk.elim) ?aF ?aO ?aB ?aS ?aL ?_; (case aP => exact k25_mkM _ _ _ (⟨(rd_T25 t129 x20_1).f0, (rd_T25 t129 x20_1).f1⟩ : S25)); (case aB => exact (by repeat (first | (with_reducible first | exact HB.out | apply below_alloc | apply pw_below_drewN | apply below_drew1 | refine below_set ?_ GE128.out | refine below_set ?_ GE136.out) | exact HB.out))); (case aF => exact (fun k_ hk => ⟨(Nat.le_trans (below_size (by repeat (first | (with_reducible first | exact HB.out | apply below_alloc | apply pw_below_drewN | apply below_drew1 | refine below_set ?_ GE128.out | refine below_set ?_ GE136.out) | exact HB.out))) hk), Kd.freshB (g := gb128) (o := .cells #[.int .i64 a1_0, .int .i64 a1_1] 25 (0, 0)) (by (with_reducible repeat (first | refine blk_drewN ?_ _ | refine blk_drew ?_ | refine blk_alloc ?_ _)); exact BK128.out) k_ hk, Kd.freshB (g := gb136) (o := .cells #[.int .i64 ((rd_T25 t129 x20_1).f0), .int .i64 ((rd_T25 t129 x20_1).f1)] 25 (0, 0)) (by (with_reducible repeat (first | refine blk_drewN ?_ _ | refine blk_drew ?_ | refine blk_alloc ?_ _)); exact BK136.out) k_ hk⟩)); (case aO => exact (by (with_reducible repeat (first | apply Kd.R_alloc | apply Kd.R_drewN | apply Kd.R_drew)); exact Kd.R_mono HO_6.out (fun _ hk => ⟨hk.1.1, ⟨hk.1.2, hk.2⟩⟩))); (case aS => exact (below_size (by repeat (first | (with_reducible first | exact HB.out | apply below_alloc | apply pw_below_drewN | apply below_drew1 | refine below_set ?_ GE128.out | refine below_set ?_ GE136.out) | exact HB.out)))); (case aL => have := LMc17.out; omega); intro v139 w24 ho hb hg hat; rw [← Ny138.out] at ho; have n0_ := Aside0.mk (Kd.V_afterv (ok := (fun k_ => (w.heap.size ≤ k_) ∧ k_ ≠ gb128 ∧ k_ ≠ gb136)) (by (with_reducible repeat (first | apply Kd.V_alloc | apply Kd.V_drewN | apply Kd.V_drew)); exact Kd.V_mono HO_18.out (fun _ hk => ⟨⟨hk.1.1, ⟨hk.1.2.2, hk.2⟩⟩, hk.1.2.1⟩)) hg hat); have n1_ := Aside0.mk (blk_grown (g := gb128) (o := .cells #[.int .i64 a1_0, .int .i64 a1_1] 25 (0, 0)) (by (with_reducible repeat (first | refine blk_drewN ?_ _ | refine blk_drew ?_ | refine blk_alloc ?_ _)); exact BK128.out) hg (Kd.R_away HO_6.out (fun _ hk => hk.1.2))); have n2_ := Aside0.mk (blk_grown (g := gb136) (o := .cells #[.int .i64 ((rd_T25 t129 x20_1).f0), .int .i64 ((rd_T25 t129 x20_1).f1)] 25 (0, 0)) (by (with_reducible repeat (first | refine blk_drewN ?_ _ | refine blk_drew ?_ | refine blk_alloc ?_ _)); exact BK136.out) hg (Kd.R_away HO_6.out (fun _ hk => hk.2))); have n3_ := Aside0.mk (hb); have n4_ := Aside0.mk (ho); clear HO_18; clear BK128; clear BK136; clear HB; clear HO_6; have HO_18 := n0_; have BK128 := n1_; have BK136 := n2_; have HB := n3_; have HO140 := n4_; clear n0_ n1_ n2_ n3_ n4_; clear ho hb hg hat))
                  go_roundg k1
                  case measure => have := HK1.out; omega
                  case rel => exact ⟨(y138), (wrap64 (x20_1 + 1)), (by first | rfl | (simp; done) | (simp [*]; done)), H', ⟨by have := HK1.out; omega⟩, ⟨by (with_reducible repeat (first | apply Kd.R_alloc | apply Kd.R_drewN | apply Kd.R_drew)); exact Kd.R_mono HO140.out (fun _ hk => ⟨hk.1, hk.2.1⟩)⟩, ⟨by (with_reducible repeat (first | apply Kd.V_alloc | apply Kd.V_drewN | apply Kd.V_drew)); exact Kd.V_mono HO_18.out (fun _ hk => ⟨hk.1.1, ⟨hk.2, hk.1.2.1⟩⟩)⟩, ⟨by (with_reducible repeat (first | refine blk_drewN ?_ _ | refine blk_drew ?_ | refine blk_alloc ?_ _)); exact BK128.out⟩, ⟨by repeat (first | (with_reducible first | exact HB.out | apply below_alloc | apply pw_below_drewN | apply below_drew1 | refine below_set ?_ GE128.out | refine below_set ?_ GE136.out) | exact HB.out)⟩⟩
                · rw [if_neg c17] at H
                  exact absurd H (by simp)
              · rw [if_neg c16] at H
                have c16b0 : (t137 == 0) = false := beq_eq_false_iff_ne.mpr c16
                have c16b1 : (t137 != 0) = true := bne_iff_ne.mpr c16
                have HC25 := Aside0.mk H
                clear H
                have p135 : 0 ≤ (x20_1 : Int) := of_decide_eq_true (by first | (with_reducible assumption) | assumption)
                have q135 : x20_1 < (t129.length : Int) := of_decide_eq_true (by first | (with_reducible assumption) | assumption)
                obtain ⟨ad135, e135, hx135_0, hx135_1⟩ := at_T25 (Kd.V_reads' HO_18.out).2.2 x20_1 p135 q135
                cases e135
                replace p135 := eq_true p135
                replace q135 := eq_true q135
                go_upto_if 30 with (first | ((with_reducible refine gate_dst (N := 8) rfl ?_); refine box_event ?hg (N := 8) ?hd (cs := #[.int .i64 0, .int .i64 0]) (t := 25) ?hr ?_; (case hd => rfl); (case hg => rfl); (case hr => first | (go_simp; done) | (go_simp; rfl)); intro gb136 hg w26 hbox hb; have n0_ := Aside0.mk (Kd.R_below (Kd.R_elderB (by (with_reducible repeat (first | apply Kd.R_alloc | apply Kd.R_drewN | apply Kd.R_drew)); exact HO_6.out) gb136 (Nat.le_of_eq hg.symm)) hb); have n1_ := Aside0.mk (Kd.V_below (Kd.V_elderB (by (with_reducible repeat (first | apply Kd.V_alloc | apply Kd.V_drewN | apply Kd.V_drew)); exact HO_18.out) gb136 (Nat.le_of_eq hg.symm)) hb); have n2_ := Aside0.mk (blk_below (g := gb128) (o := .cells #[.int .i64 a1_0, .int .i64 a1_1] 25 (0, 0)) (by (with_reducible repeat (first | refine blk_drewN ?_ _ | refine blk_drew ?_ | refine blk_alloc ?_ _)); exact BK128.out) hb); have n3_ := Aside0.mk (below_step (by repeat (first | (with_reducible first | exact HB.out | apply below_alloc | apply pw_below_drewN | apply below_drew1 | refine below_set ?_ GE128.out) | exact HB.out)) hb); have n4_ := Aside0.mk (hbox); have n5_ := Aside0.mk ((by rw [hg]; exact (below_size (by repeat (first | (with_reducible first | exact HB.out | apply below_alloc | apply pw_below_drewN | apply below_drew1 | refine below_set ?_ GE128.out) | exact HB.out))) : w.heap.size ≤ gb136)); have n6_ := Aside0.mk ((by rw [hg]; exact (below_size (by repeat (first | (with_reducible first | exact HB.out | apply below_alloc | apply pw_below_drewN | apply below_drew1 | refine below_set ?_ GE128.out) | exact HB.out))) : w.heap.size ≤ gb136)); have n7_ := Aside0.mk ((by rw [hg]; exact Nat.ne_of_lt (blk_lt (g := gb128) (o := .cells #[.int .i64 a1_0, .int .i64 a1_1] 25 (0, 0)) (by (with_reducible repeat (first | refine blk_drewN ?_ _ | refine blk_drew ?_ | refine blk_alloc ?_ _)); exact BK128.out)) : gb128 ≠ gb136)); have n8_ := Aside0.mk ((by rw [hg]; exact Nat.ne_of_gt (blk_lt (g := gb128) (o := .cells #[.int .i64 a1_0, .int .i64 a1_1] 25 (0, 0)) (by (with_reducible repeat (first | refine blk_drewN ?_ _ | refine blk_drew ?_ | refine blk_alloc ?_ _)); exact BK128.out)) : gb136 ≠ gb128)); clear HO_6; clear HO_18; clear BK128; clear HB; have HO_6 := n0_; have HO_18 := n1_; have BK128 := n2_; have HB := n3_; have BK136 := n4_; have GW136 := n5_; have GE136 := n6_; have NB128_136 := n7_; have NB136_128 := n8_; clear n0_ n1_ n2_ n3_ n4_ n5_ n6_ n7_ n8_; clear hb hbox hg; have hnb27 := NB136_128.out; have hnc27 := NB128_136.out; have hcz28_0 : w26.cell? ⟨gb136, 0, none⟩ = some (.int .i64 0) := (blk_cell BK136.out 0).trans rfl; have hcz28_1 : w26.cell? ⟨gb136, 1, none⟩ = some (.int .i64 0) := (blk_cell BK136.out 1).trans rfl; have hfz28_0 := blk_frozen BK136.out 0; have hfz28_1 := blk_frozen BK136.out 1; have hcz29_0 : w26.cell? ⟨gb128, 0, none⟩ = some (.int .i64 a1_0) := (blk_cell BK128.out 0).trans rfl; have hcz29_1 : w26.cell? ⟨gb128, 1, none⟩ = some (.int .i64 a1_1) := (blk_cell BK128.out 1).trans rfl; have hfz29_0 := blk_frozen BK128.out 0; have hfz29_1 := blk_frozen BK128.out 1) | ((with_reducible refine gate_callee (f := 28) rfl ?_); refine goesL_ (some 26) rfl rfl Try.func28 (by kernel_rfl) rfl #[.agg #[.int .i64 ((rd_T25 t129 x20_1).f0), .int .i64 ((rd_T25 t129 x20_1).f1)], .agg #[.int .i64 a1_0, .int .i64 a1_1]] rfl (by (try simp only [List.map_toArray, List.map_cons, List.map_nil]); first | done | rfl | (simp only [List.length_drop, List.length_take]; rfl)) ?_; (with_reducible refine (place_lies.calls k1 ((rd_T25 t129 x20_1).f0) ((rd_T25 t129 x20_1).f1) a1_0 a1_1 t137 _ A15.out).mono ?_); rintro e w30 ⟨rfl, hb⟩; refine ⟨_, rfl, ?_⟩; have n0_ := Aside0.mk (Kd.R_below (by (with_reducible repeat (first | apply Kd.R_alloc | apply Kd.R_drewN | apply Kd.R_drew)); exact (Kd.R_mono (Kd.R_far (p := ⟨gb136, 1, none⟩) (Kd.R_far (p := ⟨gb136, 0, none⟩) (Kd.R_mono HO_6.out (fun k_ hk => (⟨hk, hk.2⟩ : _ ∧ k_ ≠ gb136))) (fun _ hk => hk.2) (.int .i64 ((rd_T25 t129 x20_1).f0))) (fun _ hk => hk.2) (.int .i64 ((rd_T25 t129 x20_1).f1))) (fun _ h_ => h_.1))) hb); have n1_ := Aside0.mk (Kd.V_below (by (with_reducible repeat (first | apply Kd.V_alloc | apply Kd.V_drewN | apply Kd.V_drew)); exact (Kd.V_mono (Kd.V_far (p := ⟨gb136, 1, none⟩) (Kd.V_far (p := ⟨gb136, 0, none⟩) (Kd.V_mono HO_18.out (fun k_ hk => (⟨hk, hk.2⟩ : _ ∧ k_ ≠ gb136))) (fun _ hk => hk.2) (.int .i64 ((rd_T25 t129 x20_1).f0))) (fun _ hk => hk.2) (.int .i64 ((rd_T25 t129 x20_1).f1))) (fun _ h_ => h_.1))) hb); have n2_ := Aside0.mk (blk_below (g := gb128) (o := .cells #[.int .i64 a1_0, .int .i64 a1_1] 25 (0, 0)) (by (with_reducible repeat (first | refine blk_drewN ?_ _ | refine blk_drew ?_ | refine blk_alloc ?_ _)); refine blk_far ?_ NB128_136.out _; (with_reducible repeat (first | refine blk_drewN ?_ _ | refine blk_drew ?_ | refine blk_alloc ?_ _)); refine blk_far ?_ NB128_136.out _; (with_reducible repeat (first | refine blk_drewN ?_ _ | refine blk_drew ?_ | refine blk_alloc ?_ _)); exact BK128.out) hb); have n3_ := Aside0.mk (blk_below (g := gb136) (o := .cells #[.int .i64 ((rd_T25 t129 x20_1).f0), .int .i64 ((rd_T25 t129 x20_1).f1)] 25 (0, 0)) (by (with_reducible repeat (first | refine blk_drewN ?_ _ | refine blk_drew ?_ | refine blk_alloc ?_ _)); refine blk_put (cs := #[.int .i64 ((rd_T25 t129 x20_1).f0), .int .i64 0]) ?_ 1 _ rfl; (with_reducible repeat (first | refine blk_drewN ?_ _ | refine blk_drew ?_ | refine blk_alloc ?_ _)); refine blk_put (cs := #[.int .i64 0, .int .i64 0]) ?_ 0 _ rfl; (with_reducible repeat (first | refine blk_drewN ?_ _ | refine blk_drew ?_ | refine blk_alloc ?_ _)); exact BK136.out) hb); have n4_ := Aside0.mk (below_step (by repeat (first | (with_reducible first | exact HB.out | apply below_alloc | apply pw_below_drewN | apply below_drew1 | refine below_set ?_ GE128.out | refine below_set ?_ GE136.out) | exact HB.out)) hb); clear HO_6; clear HO_18; clear BK128; clear BK136; clear HB; have HO_6 := n0_; have HO_18 := n1_; have BK128 := n2_; have BK136 := n3_; have HB := n4_; clear n0_ n1_ n2_ n3_ n4_; (try clear hb); (try clear hb2); (try clear hk); (try clear hi)))
                (try simp only [Act.put, List.setIfInBounds_toArray, List.set_cons_zero, List.set_cons_succ])
                go_cut [30] (fun v30 wc => ∃ (kq : Nat) (x30_24 : Bool), v30 = .bool x30_24 ∧ Aside0 (place_Take.j1 kq x6_1 t137 t129 (t129.length : Int) x20_1 t137 x30_24 a1_0 a1_1 ((rd_T25 t129 x20_1).f0) ((rd_T25 t129 x20_1).f1) = some r) ∧ Aside0 (kq ≤ k1) ∧ Aside0 (Kd.R k25 25 wc w.heap.size (fun k_ => (w.heap.size ≤ k_) ∧ k_ ≠ gb128 ∧ k_ ≠ gb136) u6 x6_1) ∧ Aside0 (Kd.V k25 25 wc w.heap.size (fun k_ => (w.heap.size ≤ k_) ∧ some k_ ≠ (u6 : Value).ownBlock ∧ k_ ≠ gb128 ∧ k_ ≠ gb136) (.slice (some ad135) t129.length co11) t129) ∧ Aside0 (wc.heap[gb128]? = some (.cells #[.int .i64 a1_0, .int .i64 a1_1] 25 (0, 0))) ∧ Aside0 (wc.heap[gb136]? = some (.cells #[.int .i64 ((rd_T25 t129 x20_1).f0), .int .i64 ((rd_T25 t129 x20_1).f1)] 25 (0, 0))) ∧ Aside0 (Below w.heap.size w wc))
                case first =>
                  have H := HC25.out
                  clear HC25
                  by_cases c31 : t137 = 3
                  · rw [if_pos c31] at H
                    have c31b0 : (t137 == 3) = true := beq_iff_eq.mpr c31
                    have c31b1 : (t137 != 3) = false := bne_eq_false_iff_eq.mpr c31
                    clear c31
                    (first | rw [c31b0] | (simp only [i64_w, i32_w]; rw [c31b0]) | skip)
                    have H' := Aside0.mk H
                    clear H
                    go_wp2
                    go_meet
                    case rel => exact ⟨_, ((t137 == 3)), (by first | rfl | (simp; done) | (simp [*]; done)), H', ⟨by have := HK1.out; first | omega | exact Nat.le_refl _⟩, ⟨by (with_reducible repeat (first | apply Kd.R_alloc | apply Kd.R_drewN | apply Kd.R_drew)); exact Kd.R_mono HO_6.out (fun _ hk => ⟨hk.1.1, ⟨hk.1.2, hk.2⟩⟩)⟩, ⟨by (with_reducible repeat (first | apply Kd.V_alloc | apply Kd.V_drewN | apply Kd.V_drew)); exact Kd.V_mono HO_18.out (fun _ hk => ⟨hk.1.1, ⟨hk.1.2.1, ⟨hk.1.2.2, hk.2⟩⟩⟩)⟩, ⟨by (with_reducible repeat (first | refine blk_drewN ?_ _ | refine blk_drew ?_ | refine blk_alloc ?_ _)); exact BK128.out⟩, ⟨by (with_reducible repeat (first | refine blk_drewN ?_ _ | refine blk_drew ?_ | refine blk_alloc ?_ _)); exact BK136.out⟩, ⟨by repeat (first | (with_reducible first | exact HB.out | apply below_alloc | apply pw_below_drewN | apply below_drew1 | refine below_set ?_ GE128.out | refine below_set ?_ GE136.out) | exact HB.out)⟩⟩
                  · rw [if_neg c31] at H
                    have c31b0 : (t137 == 3) = false := beq_eq_false_iff_ne.mpr c31
                    have c31b1 : (t137 != 3) = true := bne_iff_ne.mpr c31
                    (first | rw [c31b0] | (simp only [i64_w, i32_w]; rw [c31b0]) | skip)
                    have H' := Aside0.mk H
                    clear H
                    go_wp2
                    go_meet
                    case rel => exact ⟨_, ((t137 == 1)), (by first | rfl | (simp; done) | (simp [*]; done)), H', ⟨by have := HK1.out; first | omega | exact Nat.le_refl _⟩, ⟨by (with_reducible repeat (first | apply Kd.R_alloc | apply Kd.R_drewN | apply Kd.R_drew)); exact Kd.R_mono HO_6.out (fun _ hk => ⟨hk.1.1, ⟨hk.1.2, hk.2⟩⟩)⟩, ⟨by (with_reducible repeat (first | apply Kd.V_alloc | apply Kd.V_drewN | apply Kd.V_drew)); exact Kd.V_mono HO_18.out (fun _ hk => ⟨hk.1.1, ⟨hk.1.2.1, ⟨hk.1.2.2, hk.2⟩⟩⟩)⟩, ⟨by (with_reducible repeat (first | refine blk_drewN ?_ _ | refine blk_drew ?_ | refine blk_alloc ?_ _)); exact BK128.out⟩, ⟨by (with_reducible repeat (first | refine blk_drewN ?_ _ | refine blk_drew ?_ | refine blk_alloc ?_ _)); exact BK136.out⟩, ⟨by repeat (first | (with_reducible first | exact HB.out | apply below_alloc | apply pw_below_drewN | apply below_drew1 | refine below_set ?_ GE128.out | refine below_set ?_ GE136.out) | exact HB.out)⟩⟩
                case rest =>
                  clear HC25
                  try clear c1
                  try clear p1
                  try clear q1
                  try clear hx1
                  try clear c2
                  try clear p2
                  try clear c3
                  try clear c4
                  try clear c4b0
                  try clear p6
                  try clear c12
                  try clear c12b0
                  try clear c13
                  try clear c13b0
                  try clear p13
                  try clear q13
                  try clear hx13
                  try clear c14
                  try clear c14b0
                  try clear c15
                  try clear c16
                  try clear c16b0
                  try clear c16b1
                  try clear c17
                  try clear c19
                  try clear c27
                  try clear c28
                  try clear c31
                  try clear c31b0
                  try clear c31b1
                  try clear hcz10_0
                  try clear hcz10_1
                  try clear hcz20_0
                  try clear hcz20_1
                  try clear hcz21_0
                  try clear hcz21_1
                  try clear hcz23_0
                  try clear hcz23_1
                  try clear hcz28_0
                  try clear hcz28_1
                  try clear hcz29_0
                  try clear hcz29_1
                  try clear hcz7_0
                  try clear hcz7_1
                  try clear hfz10_0
                  try clear hfz10_1
                  try clear hfz20_0
                  try clear hfz20_1
                  try clear hfz21_0
                  try clear hfz21_1
                  try clear hfz23_0
                  try clear hfz23_1
                  try clear hfz28_0
                  try clear hfz28_1
                  try clear hfz29_0
                  try clear hfz29_1
                  try clear hfz7_0
                  try clear hfz7_1
                  try clear hx135_0
                  try clear hx135_1
                  try clear p135
                  try clear p2
                  try clear q135
                  obtain ⟨kq, x30_24, rfl, HA, HJ24, HO_6, HO_18, BK128, BK136, HB⟩ := hcut
                  cases kq with
                  | zero => exact absurd HA.out (by simp [place_Take.j1])
                  | succ kj24 =>
                    have H := HA.out
                    clear HA
                    simp only [place_Take.j1] at H
                    by_cases c32 : x30_24 = true
                    · subst c32
                      have H1 : (if x6_1.length < 8796093022208 then ((some (x6_1 ++ [(⟨((rd_T25 t129 x20_1).f0), a1_0⟩ : S25)] : List (S25))).bind fun y141 => (if t137 = 1 then (place_Take.l0 kj24 y141 t129 (t129.length : Int) (wrap64 (x20_1 + 1)) a1_0 a1_1) else (if y141.length < 8796093022208 then (place_Take.l0 kj24 (y141 ++ [(⟨a1_1, ((rd_T25 t129 x20_1).f1)⟩ : S25)]) t129 (t129.length : Int) (wrap64 (x20_1 + 1)) a1_0 a1_1) else (none)))) else (none)) = some r := by rw [if_pos rfl] at H; exact H
                      clear H
                      have H := H1
                      clear H1
                      by_cases c33 : x6_1.length < 8796093022208
                      · rw [if_pos c33] at H
                        have LMc33 := Aside0.mk c33
                        clear c33
                        obtain ⟨y141, hy141⟩ : ∃ y_ : List (S25), y_ = (x6_1 ++ [(⟨((rd_T25 t129 x20_1).f0), a1_0⟩ : S25)]) := ⟨_, rfl⟩
                        replace H : (if t137 = 1 then (place_Take.l0 kj24 y141 t129 (t129.length : Int) (wrap64 (x20_1 + 1)) a1_0 a1_1) else (if y141.length < 8796093022208 then (place_Take.l0 kj24 (y141 ++ [(⟨a1_1, ((rd_T25 t129 x20_1).f1)⟩ : S25)]) t129 (t129.length : Int) (wrap64 (x20_1 + 1)) a1_0 a1_1) else (none))) = some r := by first | (rw [hy141]; with_reducible exact H) | (have H2_ := (Option.bind_some _ _).symm.trans H; rw [hy141]; with_reducible exact H2_) | (have H2_ := (Option.bind_some _ _).symm.trans H; with_reducible exact H2_) | with_reducible exact H | (rw [hy141]; exact H) | exact H
                        have Ny141 := Aside0.mk hy141
                        clear hy141
                        by_cases c34 : t137 = 1
                        · rw [if_pos c34] at H
                          have c34b0 : (t137 == 1) = true := beq_iff_eq.mpr c34
                          have c34b1 : (t137 != 1) = false := bne_eq_false_iff_eq.mpr c34
                          clear c34
                          have H' := Aside0.mk H
                          clear H
                          have hnb35 := NB136_128.out
                          have hnc35 := NB128_136.out
                          have hcz36_0 : wc.cell? ⟨gb136, 0, none⟩ = some (.int .i64 ((rd_T25 t129 x20_1).f0)) := (blk_cell BK136.out 0).trans rfl
                          have hcz36_1 : wc.cell? ⟨gb136, 1, none⟩ = some (.int .i64 ((rd_T25 t129 x20_1).f1)) := (blk_cell BK136.out 1).trans rfl
                          have hfz36_0 := blk_frozen BK136.out 0
                          have hfz36_1 := blk_frozen BK136.out 1
                          have hcz37_0 : wc.cell? ⟨gb128, 0, none⟩ = some (.int .i64 a1_0) := (blk_cell BK128.out 0).trans rfl
                          have hcz37_1 : wc.cell? ⟨gb128, 1, none⟩ = some (.int .i64 a1_1) := (blk_cell BK128.out 1).trans rfl
                          have hfz37_0 := blk_frozen BK128.out 0
                          have hfz37_1 := blk_frozen BK128.out 1
                          go_wp2_with (first | ((with_reducible refine gate_builtin (b := .append) (xs := #[.tmp 39, .tmp 45]) rfl ?_); at_builtin; refine Kd.R_append k25 (w0 := w) w.heap.size rfl (.tmp 39) (.tmp 45) 22 25 (.agg #[(.int .i64 0), (.int .i64 0)]) 16 rfl Try.underlying22 info25 rfl (by decide) (by omega) u6 x6_1 (⟨((rd_T25 t129 x20_1).f0), a1_0⟩ : S25) [.int .i64 ((rd_T25 t129 x20_1).f0), .int .i64 a1_0] (fun k_ => (w.heap.size ≤ k_) ∧ k_ ≠ gb128 ∧ k_ ≠ gb136) (fun _ => False) rfl rfl ?aP (fun _ hk => hk.elim) ?aF ?aO ?aB ?aS ?aL ?_; (case aP => exact k25_mkM _ _ _ (⟨((rd_T25 t129 x20_1).f0), a1_0⟩ : S25)); (case aB => exact (by repeat (first | (with_reducible first | exact HB.out | apply below_alloc | apply pw_below_drewN | apply below_drew1 | refine below_set ?_ GE128.out | refine below_set ?_ GE136.out) | exact HB.out))); (case aF => exact (fun k_ hk => ⟨(Nat.le_trans (below_size (by repeat (first | (with_reducible first | exact HB.out | apply below_alloc | apply pw_below_drewN | apply below_drew1 | refine below_set ?_ GE128.out | refine below_set ?_ GE136.out) | exact HB.out))) hk), Kd.freshB (g := gb128) (o := .cells #[.int .i64 a1_0, .int .i64 a1_1] 25 (0, 0)) (by (with_reducible repeat (first | refine blk_drewN ?_ _ | refine blk_drew ?_ | refine blk_alloc ?_ _)); exact BK128.out) k_ hk, Kd.freshB (g := gb136) (o := .cells #[.int .i64 ((rd_T25 t129 x20_1).f0), .int .i64 ((rd_T25 t129 x20_1).f1)] 25 (0, 0)) (by (with_reducible repeat (first | refine blk_drewN ?_ _ | refine blk_drew ?_ | refine blk_alloc ?_ _)); exact BK136.out) k_ hk⟩)); (case aO => exact (by (with_reducible repeat (first | apply Kd.R_alloc | apply Kd.R_drewN | apply Kd.R_drew)); exact HO_6.out)); (case aS => exact (below_size (by repeat (first | (with_reducible first | exact HB.out | apply below_alloc | apply pw_below_drewN | apply below_drew1 | refine below_set ?_ GE128.out | refine below_set ?_ GE136.out) | exact HB.out)))); (case aL => have := LMc33.out; omega); intro v142 w38 ho hb hg hat; rw [← Ny141.out] at ho; have n0_ := Aside0.mk (Kd.V_afterv (ok := (fun k_ => (w.heap.size ≤ k_) ∧ k_ ≠ gb128 ∧ k_ ≠ gb136)) (by (with_reducible repeat (first | apply Kd.V_alloc | apply Kd.V_drewN | apply Kd.V_drew)); exact Kd.V_mono HO_18.out (fun _ hk => ⟨⟨hk.1, ⟨hk.2.2.1, hk.2.2.2⟩⟩, hk.2.1⟩)) hg hat); have n1_ := Aside0.mk (blk_grown (g := gb128) (o := .cells #[.int .i64 a1_0, .int .i64 a1_1] 25 (0, 0)) (by (with_reducible repeat (first | refine blk_drewN ?_ _ | refine blk_drew ?_ | refine blk_alloc ?_ _)); exact BK128.out) hg (Kd.R_away HO_6.out (fun _ hk => hk.2.1))); have n2_ := Aside0.mk (blk_grown (g := gb136) (o := .cells #[.int .i64 ((rd_T25 t129 x20_1).f0), .int .i64 ((rd_T25 t129 x20_1).f1)] 25 (0, 0)) (by (with_reducible repeat (first | refine blk_drewN ?_ _ | refine blk_drew ?_ | refine blk_alloc ?_ _)); exact BK136.out) hg (Kd.R_away HO_6.out (fun _ hk => hk.2.2))); have n3_ := Aside0.mk (hb); have n4_ := Aside0.mk (ho); clear HO_18; clear BK128; clear BK136; clear HB; clear HO_6; have HO_18 := n0_; have BK128 := n1_; have BK136 := n2_; have HB := n3_; have HO143 := n4_; clear n0_ n1_ n2_ n3_ n4_; clear ho hb hg hat))
                          go_roundg kj24
                          case measure => have := HK1.out; have := HJ24.out; omega
                          case rel => exact ⟨(y141), (wrap64 (x20_1 + 1)), (by first | rfl | (simp; done) | (simp [*]; done)), H', ⟨by have := HK1.out; have := HJ24.out; omega⟩, ⟨by (with_reducible repeat (first | apply Kd.R_alloc | apply Kd.R_drewN | apply Kd.R_drew)); exact Kd.R_mono HO143.out (fun _ hk => ⟨hk.1, hk.2.1⟩)⟩, ⟨by (with_reducible repeat (first | apply Kd.V_alloc | apply Kd.V_drewN | apply Kd.V_drew)); exact Kd.V_mono HO_18.out (fun _ hk => ⟨hk.1.1, ⟨hk.2, hk.1.2.1⟩⟩)⟩, ⟨by (with_reducible repeat (first | refine blk_drewN ?_ _ | refine blk_drew ?_ | refine blk_alloc ?_ _)); exact BK128.out⟩, ⟨by repeat (first | (with_reducible first | exact HB.out | apply below_alloc | apply pw_below_drewN | apply below_drew1 | refine below_set ?_ GE128.out | refine below_set ?_ GE136.out) | exact HB.out)⟩⟩
                        · rw [if_neg c34] at H
                          have c34b0 : (t137 == 1) = false := beq_eq_false_iff_ne.mpr c34
                          have c34b1 : (t137 != 1) = true := bne_iff_ne.mpr c34
                          by_cases c39 : y141.length < 8796093022208
                          · rw [if_pos c39] at H
                            have LMc39 := Aside0.mk c39
                            clear c39
                            obtain ⟨y144, hy144⟩ : ∃ y_ : List (S25), y_ = (y141 ++ [(⟨a1_1, ((rd_T25 t129 x20_1).f1)⟩ : S25)]) := ⟨_, rfl⟩
                            replace H : (place_Take.l0 kj24 y144 t129 (t129.length : Int) (wrap64 (x20_1 + 1)) a1_0 a1_1) = some r := by first | (rw [hy144]; with_reducible exact H) | (have H2_ := (Option.bind_some _ _).symm.trans H; rw [hy144]; with_reducible exact H2_) | (have H2_ := (Option.bind_some _ _).symm.trans H; with_reducible exact H2_) | with_reducible exact H | (rw [hy144]; exact H) | exact H
                            have Ny144 := Aside0.mk hy144
                            clear hy144
                            have H' := Aside0.mk H
                            clear H
                            have hnb40 := NB136_128.out
                            have hnc40 := NB128_136.out
                            have hcz41_0 : wc.cell? ⟨gb136, 0, none⟩ = some (.int .i64 ((rd_T25 t129 x20_1).f0)) := (blk_cell BK136.out 0).trans rfl
                            have hcz41_1 : wc.cell? ⟨gb136, 1, none⟩ = some (.int .i64 ((rd_T25 t129 x20_1).f1)) := (blk_cell BK136.out 1).trans rfl
                            have hfz41_0 := blk_frozen BK136.out 0
                            have hfz41_1 := blk_frozen BK136.out 1
                            have hcz42_0 : wc.cell? ⟨gb128, 0, none⟩ = some (.int .i64 a1_0) := (blk_cell BK128.out 0).trans rfl
                            have hcz42_1 : wc.cell? ⟨gb128, 1, none⟩ = some (.int .i64 a1_1) := (blk_cell BK128.out 1).trans rfl
                            have hfz42_0 := blk_frozen BK128.out 0
                            have hfz42_1 := blk_frozen BK128.out 1
                            go_wp2_with (first | ((with_reducible refine gate_builtin (b := .append) (xs := #[.tmp 39, .tmp 45]) rfl ?_); at_builtin; refine Kd.R_append k25 (w0 := w) w.heap.size rfl (.tmp 39) (.tmp 45) 22 25 (.agg #[(.int .i64 0), (.int .i64 0)]) 16 rfl Try.underlying22 info25 rfl (by decide) (by omega) u6 x6_1 (⟨((rd_T25 t129 x20_1).f0), a1_0⟩ : S25) [.int .i64 ((rd_T25 t129 x20_1).f0), .int .i64 a1_0] (fun k_ => (w.heap.size ≤ k_) ∧ k_ ≠ gb128 ∧ k_ ≠ gb136) (fun _ => False) rfl rfl ?aP (fun _ hk => hk.elim) ?aF ?aO ?aB ?aS ?aL ?_; (case aP => exact k25_mkM _ _ _ (⟨((rd_T25 t129 x20_1).f0), a1_0⟩ : S25)); (case aB => exact (by repeat (first | (with_reducible first | exact HB.out | apply below_alloc | apply pw_below_drewN | apply below_drew1 | refine below_set ?_ GE128.out | refine below_set ?_ GE136.out) | exact HB.out))); (case aF => exact (fun k_ hk => ⟨(Nat.le_trans (below_size (by repeat (first | (with_reducible first | exact HB.out | apply below_alloc | apply pw_below_drewN | apply below_drew1 | refine below_set ?_ GE128.out | refine below_set ?_ GE136.out) | exact HB.out))) hk), Kd.freshB (g := gb128) (o := .cells #[.int .i64 a1_0, .int .i64 a1_1] 25 (0, 0)) (by (with_reducible repeat (first | refine blk_drewN ?_ _ | refine blk_drew ?_ | refine blk_alloc ?_ _)); exact BK128.out) k_ hk, Kd.freshB (g := gb136) (o := .cells #[.int .i64 ((rd_T25 t129 x20_1).f0), .int .i64 ((rd_T25 t129 x20_1).f1)] 25 (0, 0)) (by (with_reducible repeat (first | refine blk_drewN ?_ _ | refine blk_drew ?_ | refine blk_alloc ?_ _)); exact BK136.out) k_ hk⟩)); (case aO => exact (by (with_reducible repeat (first | apply Kd.R_alloc | apply Kd.R_drewN | apply Kd.R_drew)); exact HO_6.out)); (case aS => exact (below_size (by repeat (first | (with_reducible first | exact HB.out | apply below_alloc | apply pw_below_drewN | apply below_drew1 | refine below_set ?_ GE128.out | refine below_set ?_ GE136.out) | exact HB.out)))); (case aL => have := LMc33.out; omega); intro v142 w43 ho hb hg hat; rw [← Ny141.out] at ho; have n0_ := Aside0.mk (Kd.V_afterv (ok := (fun k_ => (w.heap.size ≤ k_) ∧ k_ ≠ gb128 ∧ k_ ≠ gb136)) (by (with_reducible repeat (first | apply Kd.V_alloc | apply Kd.V_drewN | apply Kd.V_drew)); exact Kd.V_mono HO_18.out (fun _ hk => ⟨⟨hk.1, ⟨hk.2.2.1, hk.2.2.2⟩⟩, hk.2.1⟩)) hg hat); have n1_ := Aside0.mk (blk_grown (g := gb128) (o := .cells #[.int .i64 a1_0, .int .i64 a1_1] 25 (0, 0)) (by (with_reducible repeat (first | refine blk_drewN ?_ _ | refine blk_drew ?_ | refine blk_alloc ?_ _)); exact BK128.out) hg (Kd.R_away HO_6.out (fun _ hk => hk.2.1))); have n2_ := Aside0.mk (blk_grown (g := gb136) (o := .cells #[.int .i64 ((rd_T25 t129 x20_1).f0), .int .i64 ((rd_T25 t129 x20_1).f1)] 25 (0, 0)) (by (with_reducible repeat (first | refine blk_drewN ?_ _ | refine blk_drew ?_ | refine blk_alloc ?_ _)); exact BK136.out) hg (Kd.R_away HO_6.out (fun _ hk => hk.2.2))); have n3_ := Aside0.mk (hb); have n4_ := Aside0.mk (ho); clear HO_18; clear BK128; clear BK136; clear HB; clear HO_6; have HO_18 := n0_; have BK128 := n1_; have BK136 := n2_; have HB := n3_; have HO143 := n4_; clear n0_ n1_ n2_ n3_ n4_; clear ho hb hg hat; have hcz44_0 : w43.cell? ⟨gb128, 0, none⟩ = some (.int .i64 a1_0) := (blk_cell BK128.out 0).trans rfl; have hcz44_1 : w43.cell? ⟨gb128, 1, none⟩ = some (.int .i64 a1_1) := (blk_cell BK128.out 1).trans rfl; have hfz44_0 := blk_frozen BK128.out 0; have hfz44_1 := blk_frozen BK128.out 1; have hcz45_0 : w43.cell? ⟨gb136, 0, none⟩ = some (.int .i64 ((rd_T25 t129 x20_1).f0)) := (blk_cell BK136.out 0).trans rfl; have hcz45_1 : w43.cell? ⟨gb136, 1, none⟩ = some (.int .i64 ((rd_T25 t129 x20_1).f1)) := (blk_cell BK136.out 1).trans rfl; have hfz45_0 := blk_frozen BK136.out 0; have hfz45_1 := blk_frozen BK136.out 1) | ((with_reducible refine gate_builtin (b := .append) (xs := #[.tmp 49, .tmp 55]) rfl ?_); at_builtin; refine Kd.R_append k25 (w0 := w) w.heap.size rfl (.tmp 49) (.tmp 55) 22 25 (.agg #[(.int .i64 0), (.int .i64 0)]) 16 rfl Try.underlying22 info25 rfl (by decide) (by omega) v142 y141 (⟨a1_1, ((rd_T25 t129 x20_1).f1)⟩ : S25) [.int .i64 a1_1, .int .i64 ((rd_T25 t129 x20_1).f1)] (fun k_ => (w.heap.size ≤ k_) ∧ k_ ≠ gb128 ∧ k_ ≠ gb136) (fun _ => False) rfl rfl ?aP (fun _ hk => hk.elim) ?aF ?aO ?aB ?aS ?aL ?_; (case aP => exact k25_mkM _ _ _ (⟨a1_1, ((rd_T25 t129 x20_1).f1)⟩ : S25)); (case aB => exact (by repeat (first | (with_reducible first | exact HB.out | apply below_alloc | apply pw_below_drewN | apply below_drew1 | refine below_set ?_ GE128.out | refine below_set ?_ GE136.out) | exact HB.out))); (case aF => exact (fun k_ hk => ⟨(Nat.le_trans (below_size (by repeat (first | (with_reducible first | exact HB.out | apply below_alloc | apply pw_below_drewN | apply below_drew1 | refine below_set ?_ GE128.out | refine below_set ?_ GE136.out) | exact HB.out))) hk), Kd.freshB (g := gb128) (o := .cells #[.int .i64 a1_0, .int .i64 a1_1] 25 (0, 0)) (by (with_reducible repeat (first | refine blk_drewN ?_ _ | refine blk_drew ?_ | refine blk_alloc ?_ _)); exact BK128.out) k_ hk, Kd.freshB (g := gb136) (o := .cells #[.int .i64 ((rd_T25 t129 x20_1).f0), .int .i64 ((rd_T25 t129 x20_1).f1)] 25 (0, 0)) (by (with_reducible repeat (first | refine blk_drewN ?_ _ | refine blk_drew ?_ | refine blk_alloc ?_ _)); exact BK136.out) k_ hk⟩)); (case aO => exact (by (with_reducible repeat (first | apply Kd.R_alloc | apply Kd.R_drewN | apply Kd.R_drew)); exact HO143.out)); (case aS => exact (below_size (by repeat (first | (with_reducible first | exact HB.out | apply below_alloc | apply pw_below_drewN | apply below_drew1 | refine below_set ?_ GE128.out | refine below_set ?_ GE136.out) | exact HB.out)))); (case aL => have := LMc39.out; omega); intro v145 w46 ho hb hg hat; rw [← Ny144.out] at ho; have n0_ := Aside0.mk (Kd.V_afterv (ok := (fun k_ => (w.heap.size ≤ k_) ∧ k_ ≠ gb128 ∧ k_ ≠ gb136)) (by (with_reducible repeat (first | apply Kd.V_alloc | apply Kd.V_drewN | apply Kd.V_drew)); exact HO_18.out) hg hat); have n1_ := Aside0.mk (blk_grown (g := gb128) (o := .cells #[.int .i64 a1_0, .int .i64 a1_1] 25 (0, 0)) (by (with_reducible repeat (first | refine blk_drewN ?_ _ | refine blk_drew ?_ | refine blk_alloc ?_ _)); exact BK128.out) hg (Kd.R_away HO143.out (fun _ hk => hk.2.1))); have n2_ := Aside0.mk (blk_grown (g := gb136) (o := .cells #[.int .i64 ((rd_T25 t129 x20_1).f0), .int .i64 ((rd_T25 t129 x20_1).f1)] 25 (0, 0)) (by (with_reducible repeat (first | refine blk_drewN ?_ _ | refine blk_drew ?_ | refine blk_alloc ?_ _)); exact BK136.out) hg (Kd.R_away HO143.out (fun _ hk => hk.2.2))); have n3_ := Aside0.mk (hb); have n4_ := Aside0.mk (ho); clear HO_18; clear BK128; clear BK136; clear HB; clear HO143; have HO_18 := n0_; have BK128 := n1_; have BK136 := n2_; have HB := n3_; have HO146 := n4_; clear n0_ n1_ n2_ n3_ n4_; clear ho hb hg hat))
                            go_roundg kj24
                            case measure => have := HK1.out; have := HJ24.out; omega
                            case rel => exact ⟨(y144), (wrap64 (x20_1 + 1)), (by first | rfl | (simp; done) | (simp [*]; done)), H', ⟨by have := HK1.out; have := HJ24.out; omega⟩, ⟨by (with_reducible repeat (first | apply Kd.R_alloc | apply Kd.R_drewN | apply Kd.R_drew)); exact Kd.R_mono HO146.out (fun _ hk => ⟨hk.1, hk.2.1⟩)⟩, ⟨by (with_reducible repeat (first | apply Kd.V_alloc | apply Kd.V_drewN | apply Kd.V_drew)); exact Kd.V_mono HO_18.out (fun _ hk => ⟨hk.1.1, ⟨hk.2, hk.1.2.1⟩⟩)⟩, ⟨by (with_reducible repeat (first | refine blk_drewN ?_ _ | refine blk_drew ?_ | refine blk_alloc ?_ _)); exact BK128.out⟩, ⟨by repeat (first | (with_reducible first | exact HB.out | apply below_alloc | apply pw_below_drewN | apply below_drew1 | refine below_set ?_ GE128.out | refine below_set ?_ GE136.out) | exact HB.out)⟩⟩
                          · rw [if_neg c39] at H
                            exact absurd H (by simp)
                      · rw [if_neg c33] at H
                        exact absurd H (by simp)
                    · replace c32 := Bool.eq_false_iff.mpr c32
                      subst c32
                      have H1 : (if t137 = 2 then (if x6_1.length < 8796093022208 then (place_Take.l0 kj24 (x6_1 ++ [(⟨a1_1, ((rd_T25 t129 x20_1).f1)⟩ : S25)]) t129 (t129.length : Int) (wrap64 (x20_1 + 1)) a1_0 a1_1) else (none)) else (place_Take.l0 kj24 x6_1 t129 (t129.length : Int) (wrap64 (x20_1 + 1)) a1_0 a1_1)) = some r := by rw [if_neg (show ¬ (false = true) by decide)] at H; exact H
                      clear H
                      have H := H1
                      clear H1
                      by_cases c47 : t137 = 2
                      · rw [if_pos c47] at H
                        have c47b0 : (t137 == 2) = true := beq_iff_eq.mpr c47
                        have c47b1 : (t137 != 2) = false := bne_eq_false_iff_eq.mpr c47
                        clear c47
                        by_cases c48 : x6_1.length < 8796093022208
                        · rw [if_pos c48] at H
                          have LMc48 := Aside0.mk c48
                          clear c48
                          obtain ⟨y147, hy147⟩ : ∃ y_ : List (S25), y_ = (x6_1 ++ [(⟨a1_1, ((rd_T25 t129 x20_1).f1)⟩ : S25)]) := ⟨_, rfl⟩
                          replace H : (place_Take.l0 kj24 y147 t129 (t129.length : Int) (wrap64 (x20_1 + 1)) a1_0 a1_1) = some r := by first | (rw [hy147]; with_reducible exact H) | (have H2_ := (Option.bind_some _ _).symm.trans H; rw [hy147]; with_reducible exact H2_) | (have H2_ := (Option.bind_some _ _).symm.trans H; with_reducible exact H2_) | with_reducible exact H | (rw [hy147]; exact H) | exact H
                          have Ny147 := Aside0.mk hy147
                          clear hy147
                          have H' := Aside0.mk H
                          clear H
                          have hnb49 := NB128_136.out
                          have hnc49 := NB136_128.out
                          have hcz50_0 : wc.cell? ⟨gb128, 0, none⟩ = some (.int .i64 a1_0) := (blk_cell BK128.out 0).trans rfl
                          have hcz50_1 : wc.cell? ⟨gb128, 1, none⟩ = some (.int .i64 a1_1) := (blk_cell BK128.out 1).trans rfl
                          have hfz50_0 := blk_frozen BK128.out 0
                          have hfz50_1 := blk_frozen BK128.out 1
                          have hcz51_0 : wc.cell? ⟨gb136, 0, none⟩ = some (.int .i64 ((rd_T25 t129 x20_1).f0)) := (blk_cell BK136.out 0).trans rfl
                          have hcz51_1 : wc.cell? ⟨gb136, 1, none⟩ = some (.int .i64 ((rd_T25 t129 x20_1).f1)) := (blk_cell BK136.out 1).trans rfl
                          have hfz51_0 := blk_frozen BK136.out 0
                          have hfz51_1 := blk_frozen BK136.out 1
                          go_wp2_with (first | ((with_reducible refine gate_builtin (b := .append) (xs := #[.tmp 49, .tmp 55]) rfl ?_); at_builtin; refine Kd.R_append k25 (w0 := w) w.heap.size rfl (.tmp 49) (.tmp 55) 22 25 (.agg #[(.int .i64 0), (.int .i64 0)]) 16 rfl Try.underlying22 info25 rfl (by decide) (by omega) u6 x6_1 (⟨a1_1, ((rd_T25 t129 x20_1).f1)⟩ : S25) [.int .i64 a1_1, .int .i64 ((rd_T25 t129 x20_1).f1)] (fun k_ => (w.heap.size ≤ k_) ∧ k_ ≠ gb128 ∧ k_ ≠ gb136) (fun _ => False) rfl rfl ?aP (fun _ hk => hk.elim) ?aF ?aO ?aB ?aS ?aL ?_; (case aP => exact k25_mkM _ _ _ (⟨a1_1, ((rd_T25 t129 x20_1).f1)⟩ : S25)); (case aB => exact (by repeat (first | (with_reducible first | exact HB.out | apply below_alloc | apply pw_below_drewN | apply below_drew1 | refine below_set ?_ GE128.out | refine below_set ?_ GE136.out) | exact HB.out))); (case aF => exact (fun k_ hk => ⟨(Nat.le_trans (below_size (by repeat (first | (with_reducible first | exact HB.out | apply below_alloc | apply pw_below_drewN | apply below_drew1 | refine below_set ?_ GE128.out | refine below_set ?_ GE136.out) | exact HB.out))) hk), Kd.freshB (g := gb128) (o := .cells #[.int .i64 a1_0, .int .i64 a1_1] 25 (0, 0)) (by (with_reducible repeat (first | refine blk_drewN ?_ _ | refine blk_drew ?_ | refine blk_alloc ?_ _)); exact BK128.out) k_ hk, Kd.freshB (g := gb136) (o := .cells #[.int .i64 ((rd_T25 t129 x20_1).f0), .int .i64 ((rd_T25 t129 x20_1).f1)] 25 (0, 0)) (by (with_reducible repeat (first | refine blk_drewN ?_ _ | refine blk_drew ?_ | refine blk_alloc ?_ _)); exact BK136.out) k_ hk⟩)); (case aO => exact (by (with_reducible repeat (first | apply Kd.R_alloc | apply Kd.R_drewN | apply Kd.R_drew)); exact HO_6.out)); (case aS => exact (below_size (by repeat (first | (with_reducible first | exact HB.out | apply below_alloc | apply pw_below_drewN | apply below_drew1 | refine below_set ?_ GE128.out | refine below_set ?_ GE136.out) | exact HB.out)))); (case aL => have := LMc48.out; omega); intro v148 w52 ho hb hg hat; rw [← Ny147.out] at ho; have n0_ := Aside0.mk (Kd.V_afterv (ok := (fun k_ => (w.heap.size ≤ k_) ∧ k_ ≠ gb128 ∧ k_ ≠ gb136)) (by (with_reducible repeat (first | apply Kd.V_alloc | apply Kd.V_drewN | apply Kd.V_drew)); exact Kd.V_mono HO_18.out (fun _ hk => ⟨⟨hk.1, ⟨hk.2.2.1, hk.2.2.2⟩⟩, hk.2.1⟩)) hg hat); have n1_ := Aside0.mk (blk_grown (g := gb128) (o := .cells #[.int .i64 a1_0, .int .i64 a1_1] 25 (0, 0)) (by (with_reducible repeat (first | refine blk_drewN ?_ _ | refine blk_drew ?_ | refine blk_alloc ?_ _)); exact BK128.out) hg (Kd.R_away HO_6.out (fun _ hk => hk.2.1))); have n2_ := Aside0.mk (blk_grown (g := gb136) (o := .cells #[.int .i64 ((rd_T25 t129 x20_1).f0), .int .i64 ((rd_T25 t129 x20_1).f1)] 25 (0, 0)) (by (with_reducible repeat (first | refine blk_drewN ?_ _ | refine blk_drew ?_ | refine blk_alloc ?_ _)); exact BK136.out) hg (Kd.R_away HO_6.out (fun _ hk => hk.2.2))); have n3_ := Aside0.mk (hb); have n4_ := Aside0.mk (ho); clear HO_18; clear BK128; clear BK136; clear HB; clear HO_6; have HO_18 := n0_; have BK128 := n1_; have BK136 := n2_; have HB := n3_; have HO149 := n4_; clear n0_ n1_ n2_ n3_ n4_; clear ho hb hg hat))
                          go_roundg kj24
                          case measure => have := HK1.out; have := HJ24.out; omega
                          case rel => exact ⟨(y147), (wrap64 (x20_1 + 1)), (by first | rfl | (simp; done) | (simp [*]; done)), H', ⟨by have := HK1.out; have := HJ24.out; omega⟩, ⟨by (with_reducible repeat (first | apply Kd.R_alloc | apply Kd.R_drewN | apply Kd.R_drew)); exact Kd.R_mono HO149.out (fun _ hk => ⟨hk.1, hk.2.1⟩)⟩, ⟨by (with_reducible repeat (first | apply Kd.V_alloc | apply Kd.V_drewN | apply Kd.V_drew)); exact Kd.V_mono HO_18.out (fun _ hk => ⟨hk.1.1, ⟨hk.2, hk.1.2.1⟩⟩)⟩, ⟨by (with_reducible repeat (first | refine blk_drewN ?_ _ | refine blk_drew ?_ | refine blk_alloc ?_ _)); exact BK128.out⟩, ⟨by repeat (first | (with_reducible first | exact HB.out | apply below_alloc | apply pw_below_drewN | apply below_drew1 | refine below_set ?_ GE128.out | refine below_set ?_ GE136.out) | exact HB.out)⟩⟩
                        · rw [if_neg c48] at H
                          exact absurd H (by simp)
                      · rw [if_neg c47] at H
                        have c47b0 : (t137 == 2) = false := beq_eq_false_iff_ne.mpr c47
                        have c47b1 : (t137 != 2) = true := bne_iff_ne.mpr c47
                        have H' := Aside0.mk H
                        clear H
                        go_wp2
                        go_roundg kj24
                        case measure => have := HK1.out; have := HJ24.out; omega
                        case rel => exact ⟨(x6_1), (wrap64 (x20_1 + 1)), (by first | rfl | (simp; done) | (simp [*]; done)), H', ⟨by have := HK1.out; have := HJ24.out; omega⟩, ⟨by (with_reducible repeat (first | apply Kd.R_alloc | apply Kd.R_drewN | apply Kd.R_drew)); exact Kd.R_mono HO_6.out (fun _ hk => ⟨hk.1, hk.2.1⟩)⟩, ⟨by (with_reducible repeat (first | apply Kd.V_alloc | apply Kd.V_drewN | apply Kd.V_drew)); exact Kd.V_mono HO_18.out (fun _ hk => ⟨hk.1, ⟨hk.2.1, hk.2.2.1⟩⟩)⟩, ⟨by (with_reducible repeat (first | refine blk_drewN ?_ _ | refine blk_drew ?_ | refine blk_alloc ?_ _)); exact BK128.out⟩, ⟨by repeat (first | (with_reducible first | exact HB.out | apply below_alloc | apply pw_below_drewN | apply below_drew1 | refine below_set ?_ GE128.out | refine below_set ?_ GE136.out) | exact HB.out)⟩⟩
            · rw [if_neg c14] at H
              exact absurd H (by simp)
          · rw [if_neg c13] at H
            exact absurd H (by simp)
        · rw [if_neg c12] at H
          have c12b0 : decide (x20_1 < (t129.length : Int)) = false := decide_eq_false c12
          clear c12
          replace H := Option.bind_eq_some_iff.mp H
          obtain ⟨t132, A530, H⟩ := H
          replace H : (some t132) = some r := H
          have A53 := Aside0.mk A530
          clear A530
          obtain rfl := Option.some.inj H
          obtain ⟨Ao54, co54, eo54⟩ := Kd.R_slice HO_6.out
          subst eo54
          go_wp2_with (first | ((with_reducible refine gate_callee (f := 27) rfl ?_); refine goesL_ (some 59) rfl rfl Try.func27 (by kernel_rfl) rfl #[.slice Ao54 x6_1.length co54] rfl (by (try simp only [List.map_toArray, List.map_cons, List.map_nil]); first | done | rfl | (simp only [List.length_drop, List.length_take]; rfl)) ?_; (with_reducible refine (slices_ClipR.calls (fun k_ => some k_ = (.slice Ao54 x6_1.length co54 : Value).ownBlock) _ _ x6_1 t132 _ ?side1 A53.out).mono ?_); (case side1 => exact Kd.R_V (Kd.R_tight rfl (HO_6.out))); rintro e w55 ⟨v133, rfl, ho0, hb⟩; refine ⟨_, rfl, ?_⟩; have n0_ := Aside0.mk (Kd.R_below (by (with_reducible repeat (first | apply Kd.R_alloc | apply Kd.R_drewN | apply Kd.R_drew)); exact HO_6.out) hb); have n1_ := Aside0.mk (Kd.V_below (by (with_reducible repeat (first | apply Kd.V_alloc | apply Kd.V_drewN | apply Kd.V_drew)); exact HO_18.out) hb); have n2_ := Aside0.mk (Kd.V_lower (Kd.V_mono (ok' := fun k_ => (w.heap.size ≤ k_) ∧ k_ ≠ gb128) ho0 (fun k_ hk_ => ⟨Or.elim hk_ (fun hs_ => ((HO_6.out).1 k_ hs_.symm).1) (fun hn_ => (Nat.le_trans (below_size (by repeat (first | (with_reducible first | exact HB.out | apply below_alloc | apply pw_below_drewN | apply below_drew1 | refine below_set ?_ GE128.out) | exact HB.out))) hn_)), Or.elim hk_ (fun hs_ => ((HO_6.out).1 k_ hs_.symm).2) (fun hn_ => (Kd.freshB (g := gb128) (o := .cells #[.int .i64 a1_0, .int .i64 a1_1] 25 (0, 0)) (by (with_reducible repeat (first | refine blk_drewN ?_ _ | refine blk_drew ?_ | refine blk_alloc ?_ _)); exact BK128.out) k_ hn_))⟩)) (below_size (by repeat (first | (with_reducible first | exact HB.out | apply below_alloc | apply pw_below_drewN | apply below_drew1 | refine below_set ?_ GE128.out) | exact HB.out)))); have n3_ := Aside0.mk (blk_below (g := gb128) (o := .cells #[.int .i64 a1_0, .int .i64 a1_1] 25 (0, 0)) (by (with_reducible repeat (first | refine blk_drewN ?_ _ | refine blk_drew ?_ | refine blk_alloc ?_ _)); exact BK128.out) hb); have n4_ := Aside0.mk (below_step (by repeat (first | (with_reducible first | exact HB.out | apply below_alloc | apply pw_below_drewN | apply below_drew1 | refine below_set ?_ GE128.out) | exact HB.out)) hb); clear HO_6; clear HO_18; clear BK128; clear HB; have HO_6 := n0_; have HO_18 := n1_; have HO134 := n2_; have BK128 := n3_; have HB := n4_; clear n0_ n1_ n2_ n3_ n4_; (try clear hb); (try clear hb2); (try clear hk); (try clear hi); (try clear ho0)))
          go_ret
          exact ⟨_, by first | rfl | (simp [errW_none, errW_some] <;> rfl) | (simp [*, errW_none, errW_some] <;> rfl), by (with_reducible repeat (first | apply Kd.V_alloc | apply Kd.V_drewN | apply Kd.V_drew)); exact Kd.V_mono HO134.out (fun _ hk => hk.1), by repeat (first | (with_reducible first | exact HB.out | apply below_alloc | apply pw_below_drewN | apply below_drew1 | refine below_set ?_ GE128.out) | exact HB.out)⟩

end Go.Proofs.Yticjkhkmbinmgaa.RPlace

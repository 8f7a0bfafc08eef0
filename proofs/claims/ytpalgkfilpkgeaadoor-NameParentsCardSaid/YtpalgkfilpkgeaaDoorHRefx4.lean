-- Laid by a program of this session out of the translation (the kit's printing program, with some contracts given by hand). Lean checks it.
import Derived.Test.YtpalgkfilpkgeaaDoorHRefx0
import Derived.Test.YtpalgkfilpkgeaaDoorHRefx3
namespace Go.Proofs.YtpalgkfilpkgeaaDoor.HRef
open Go.Proofs.YtpalgkfilpkgeaaDoor.Given2 Go.RowKit Go.Proofs.YtpalgkfilpkgeaaDoorW.PrintWords Go.Proofs.YtpalgkfilpkgeaaDoorW.PrintLast Go.Proofs.YtpalgkfilpkgeaaDoorW.PrintMore
attribute [local go_sem] max2_int min2_int max_two min_two max_three min_three max_four min_four   -- for this text's walks alone
set_option linter.unusedVariables false
set_option linter.unusedSimpArgs false

/-! ### credenzalaw9_awake: function 10 -/
def credenzalaw9_awake.f  : Option (Bool) := (name_Parent.f (⟨#[47, 97, 47, 98, 46, 99, 111, 110, 102]⟩ : ByteArray)).bind fun bt158 => (if bt158.1.toList = ([47, 97] : List UInt8) then (if bt158.2.1.toList = ([98, 46, 99, 111, 110, 102] : List UInt8) then (if bt158.2.2 = true then ((name_Ok.f (⟨#[97, 43, 51, 45, 49, 46, 99, 111, 110, 102]⟩ : ByteArray)).bind fun t161 => (if t161 = true then ((name_Ok.f (⟨#[46, 46]⟩ : ByteArray)).bind fun t162 => (if t162 = true then (some false) else ((name_Ok.f (⟨#[97, 47, 98]⟩ : ByteArray)).bind fun t163 => (some (!t163))))) else (some false))) else (some false)) else (some false)) else (some false))
set_option maxHeartbeats 8000000 in
set_option maxRecDepth 100000 in
theorem credenzalaw9_awake.calls  (r : Bool) (w : World) (h : credenzalaw9_awake.f  = some r) :
    Calls Tryd.prog 10 #[] w fun e w' => e = .returned (.bool r) ∧ Below w.heap.size w w' := by
  have HB := Aside0.mk (Below.refl w.heap.size w)
  have H : ((name_Parent.f (⟨#[47, 97, 47, 98, 46, 99, 111, 110, 102]⟩ : ByteArray)).bind fun bt158 => (if bt158.1.toList = ([47, 97] : List UInt8) then (if bt158.2.1.toList = ([98, 46, 99, 111, 110, 102] : List UInt8) then (if bt158.2.2 = true then ((name_Ok.f (⟨#[97, 43, 51, 45, 49, 46, 99, 111, 110, 102]⟩ : ByteArray)).bind fun t161 => (if t161 = true then ((name_Ok.f (⟨#[46, 46]⟩ : ByteArray)).bind fun t162 => (if t162 = true then (some false) else ((name_Ok.f (⟨#[97, 47, 98]⟩ : ByteArray)).bind fun t163 => (some (!t163))))) else (some false))) else (some false)) else (some false)) else (some false))) = some r := h
  clear h
  replace H := Option.bind_eq_some_iff.mp H
  obtain ⟨⟨t158, t159, t160⟩, A10, H⟩ := H
  replace H : (if t158.toList = ([47, 97] : List UInt8) then (if t159.toList = ([98, 46, 99, 111, 110, 102] : List UInt8) then (if t160 = true then ((name_Ok.f (⟨#[97, 43, 51, 45, 49, 46, 99, 111, 110, 102]⟩ : ByteArray)).bind fun t161 => (if t161 = true then ((name_Ok.f (⟨#[46, 46]⟩ : ByteArray)).bind fun t162 => (if t162 = true then (some false) else ((name_Ok.f (⟨#[97, 47, 98]⟩ : ByteArray)).bind fun t163 => (some (!t163))))) else (some false))) else (some false)) else (some false)) else (some false)) = some r := H
  have A1 := Aside0.mk A10
  clear A10
  by_cases c2 : t158.toList = ([47, 97] : List UInt8)
  · rw [if_pos c2] at H
    have c2b0 : (t158.toList == ([47, 97] : List UInt8)) = true := beq_iff_eq.mpr c2
    have c2b1 : (t158.toList != ([47, 97] : List UInt8)) = false := bne_eq_false_iff_eq.mpr c2
    clear c2
    by_cases c3 : t159.toList = ([98, 46, 99, 111, 110, 102] : List UInt8)
    · rw [if_pos c3] at H
      have c3b0 : (t159.toList == ([98, 46, 99, 111, 110, 102] : List UInt8)) = true := beq_iff_eq.mpr c3
      have c3b1 : (t159.toList != ([98, 46, 99, 111, 110, 102] : List UInt8)) = false := bne_eq_false_iff_eq.mpr c3
      clear c3
      by_cases c4 : t160 = true
      · subst c4
        have H1 : ((name_Ok.f (⟨#[97, 43, 51, 45, 49, 46, 99, 111, 110, 102]⟩ : ByteArray)).bind fun t161 => (if t161 = true then ((name_Ok.f (⟨#[46, 46]⟩ : ByteArray)).bind fun t162 => (if t162 = true then (some false) else ((name_Ok.f (⟨#[97, 47, 98]⟩ : ByteArray)).bind fun t163 => (some (!t163))))) else (some false))) = some r := by rw [if_pos rfl] at H; exact H
        clear H
        have H := H1
        clear H1
        replace H := Option.bind_eq_some_iff.mp H
        obtain ⟨t161, A50, H⟩ := H
        replace H : (if t161 = true then ((name_Ok.f (⟨#[46, 46]⟩ : ByteArray)).bind fun t162 => (if t162 = true then (some false) else ((name_Ok.f (⟨#[97, 47, 98]⟩ : ByteArray)).bind fun t163 => (some (!t163))))) else (some false)) = some r := H
        have A5 := Aside0.mk A50
        clear A50
        by_cases c6 : t161 = true
        · subst c6
          have H1 : ((name_Ok.f (⟨#[46, 46]⟩ : ByteArray)).bind fun t162 => (if t162 = true then (some false) else ((name_Ok.f (⟨#[97, 47, 98]⟩ : ByteArray)).bind fun t163 => (some (!t163))))) = some r := by rw [if_pos rfl] at H; exact H
          clear H
          have H := H1
          clear H1
          replace H := Option.bind_eq_some_iff.mp H
          obtain ⟨t162, A70, H⟩ := H
          replace H : (if t162 = true then (some false) else ((name_Ok.f (⟨#[97, 47, 98]⟩ : ByteArray)).bind fun t163 => (some (!t163)))) = some r := H
          have A7 := Aside0.mk A70
          clear A70
          by_cases c8 : t162 = true
          · subst c8
            have H1 : (some false) = some r := by rw [if_pos rfl] at H; exact H
            clear H
            have H := H1
            clear H1
            obtain rfl := Option.some.inj H
            go_enter Tryd.func10, Tryd.ntmps10
            go_wp2_with (first | ((with_reducible refine gate_callee (f := 17) rfl ?_); refine goesL_ (some 5) rfl rfl Tryd.func17 (by kernel_rfl) rfl #[.string (⟨#[47, 97, 47, 98, 46, 99, 111, 110, 102]⟩ : ByteArray)] rfl (by (try simp only [List.map_toArray, List.map_cons, List.map_nil]); first | done | rfl | (simp only [List.length_drop, List.length_take]; rfl)) ?_; (with_reducible refine (name_Parent.calls (⟨#[47, 97, 47, 98, 46, 99, 111, 110, 102]⟩ : ByteArray) t158 t159 true _ A1.out).mono ?_); rintro e w9 ⟨rfl, hb⟩; refine ⟨_, rfl, ?_⟩; have n0_ := Aside0.mk (below_step (by repeat (first | (with_reducible first | exact HB.out | apply below_alloc | apply pw_below_drewN | apply below_drew1) | exact HB.out)) hb); clear HB; have HB := n0_; clear n0_; (try clear hb); (try clear hb2); (try clear hk); (try clear hi)) | (go_at_call 16; (with_reducible refine (name_Ok.calls (⟨#[97, 43, 51, 45, 49, 46, 99, 111, 110, 102]⟩ : ByteArray) true _ A5.out).mono ?_); rintro e w' ⟨rfl, ⟨nd, rfl⟩⟩) | (go_at_call 16; (with_reducible refine (name_Ok.calls (⟨#[46, 46]⟩ : ByteArray) true _ A7.out).mono ?_); rintro e w' ⟨rfl, ⟨nd, rfl⟩⟩))
            go_ret
            exact ⟨by first | rfl | (simp [errW_none, errW_some] <;> rfl) | (simp [*, errW_none, errW_some] <;> rfl), by repeat (first | (with_reducible first | exact HB.out | apply below_alloc | apply pw_below_drewN | apply below_drew1) | exact HB.out)⟩
          · replace c8 := Bool.eq_false_iff.mpr c8
            subst c8
            have H1 : ((name_Ok.f (⟨#[97, 47, 98]⟩ : ByteArray)).bind fun t163 => (some (!t163))) = some r := by rw [if_neg (show ¬ (false = true) by decide)] at H; exact H
            clear H
            have H := H1
            clear H1
            replace H := Option.bind_eq_some_iff.mp H
            obtain ⟨t163, A100, H⟩ := H
            replace H : (some (!t163)) = some r := H
            have A10 := Aside0.mk A100
            clear A100
            obtain rfl := Option.some.inj H
            go_enter Tryd.func10, Tryd.ntmps10
            go_wp2_with (first | ((with_reducible refine gate_callee (f := 17) rfl ?_); refine goesL_ (some 5) rfl rfl Tryd.func17 (by kernel_rfl) rfl #[.string (⟨#[47, 97, 47, 98, 46, 99, 111, 110, 102]⟩ : ByteArray)] rfl (by (try simp only [List.map_toArray, List.map_cons, List.map_nil]); first | done | rfl | (simp only [List.length_drop, List.length_take]; rfl)) ?_; (with_reducible refine (name_Parent.calls (⟨#[47, 97, 47, 98, 46, 99, 111, 110, 102]⟩ : ByteArray) t158 t159 true _ A1.out).mono ?_); rintro e w11 ⟨rfl, hb⟩; refine ⟨_, rfl, ?_⟩; have n0_ := Aside0.mk (below_step (by repeat (first | (with_reducible first | exact HB.out | apply below_alloc | apply pw_below_drewN | apply below_drew1) | exact HB.out)) hb); clear HB; have HB := n0_; clear n0_; (try clear hb); (try clear hb2); (try clear hk); (try clear hi)) | (go_at_call 16; (with_reducible refine (name_Ok.calls (⟨#[97, 43, 51, 45, 49, 46, 99, 111, 110, 102]⟩ : ByteArray) true _ A5.out).mono ?_); rintro e w' ⟨rfl, ⟨nd, rfl⟩⟩) | (go_at_call 16; (with_reducible refine (name_Ok.calls (⟨#[46, 46]⟩ : ByteArray) false _ A7.out).mono ?_); rintro e w' ⟨rfl, ⟨nd, rfl⟩⟩) | (go_at_call 16; (with_reducible refine (name_Ok.calls (⟨#[97, 47, 98]⟩ : ByteArray) t163 _ A10.out).mono ?_); rintro e w' ⟨rfl, ⟨nd, rfl⟩⟩))
            go_ret
            exact ⟨by first | rfl | (simp [errW_none, errW_some] <;> rfl) | (simp [*, errW_none, errW_some] <;> rfl), by repeat (first | (with_reducible first | exact HB.out | apply below_alloc | apply pw_below_drewN | apply below_drew1) | exact HB.out)⟩
        · replace c6 := Bool.eq_false_iff.mpr c6
          subst c6
          have H1 : (some false) = some r := by rw [if_neg (show ¬ (false = true) by decide)] at H; exact H
          clear H
          have H := H1
          clear H1
          obtain rfl := Option.some.inj H
          go_enter Tryd.func10, Tryd.ntmps10
          go_wp2_with (first | ((with_reducible refine gate_callee (f := 17) rfl ?_); refine goesL_ (some 5) rfl rfl Tryd.func17 (by kernel_rfl) rfl #[.string (⟨#[47, 97, 47, 98, 46, 99, 111, 110, 102]⟩ : ByteArray)] rfl (by (try simp only [List.map_toArray, List.map_cons, List.map_nil]); first | done | rfl | (simp only [List.length_drop, List.length_take]; rfl)) ?_; (with_reducible refine (name_Parent.calls (⟨#[47, 97, 47, 98, 46, 99, 111, 110, 102]⟩ : ByteArray) t158 t159 true _ A1.out).mono ?_); rintro e w12 ⟨rfl, hb⟩; refine ⟨_, rfl, ?_⟩; have n0_ := Aside0.mk (below_step (by repeat (first | (with_reducible first | exact HB.out | apply below_alloc | apply pw_below_drewN | apply below_drew1) | exact HB.out)) hb); clear HB; have HB := n0_; clear n0_; (try clear hb); (try clear hb2); (try clear hk); (try clear hi)) | (go_at_call 16; (with_reducible refine (name_Ok.calls (⟨#[97, 43, 51, 45, 49, 46, 99, 111, 110, 102]⟩ : ByteArray) false _ A5.out).mono ?_); rintro e w' ⟨rfl, ⟨nd, rfl⟩⟩))
          go_ret
          exact ⟨by first | rfl | (simp [errW_none, errW_some] <;> rfl) | (simp [*, errW_none, errW_some] <;> rfl), by repeat (first | (with_reducible first | exact HB.out | apply below_alloc | apply pw_below_drewN | apply below_drew1) | exact HB.out)⟩
      · replace c4 := Bool.eq_false_iff.mpr c4
        subst c4
        have H1 : (some false) = some r := by rw [if_neg (show ¬ (false = true) by decide)] at H; exact H
        clear H
        have H := H1
        clear H1
        obtain rfl := Option.some.inj H
        go_enter Tryd.func10, Tryd.ntmps10
        go_wp2_with (first | ((with_reducible refine gate_callee (f := 17) rfl ?_); refine goesL_ (some 5) rfl rfl Tryd.func17 (by kernel_rfl) rfl #[.string (⟨#[47, 97, 47, 98, 46, 99, 111, 110, 102]⟩ : ByteArray)] rfl (by (try simp only [List.map_toArray, List.map_cons, List.map_nil]); first | done | rfl | (simp only [List.length_drop, List.length_take]; rfl)) ?_; (with_reducible refine (name_Parent.calls (⟨#[47, 97, 47, 98, 46, 99, 111, 110, 102]⟩ : ByteArray) t158 t159 false _ A1.out).mono ?_); rintro e w13 ⟨rfl, hb⟩; refine ⟨_, rfl, ?_⟩; have n0_ := Aside0.mk (below_step (by repeat (first | (with_reducible first | exact HB.out | apply below_alloc | apply pw_below_drewN | apply below_drew1) | exact HB.out)) hb); clear HB; have HB := n0_; clear n0_; (try clear hb); (try clear hb2); (try clear hk); (try clear hi)))
        go_ret
        exact ⟨by first | rfl | (simp [errW_none, errW_some] <;> rfl) | (simp [*, errW_none, errW_some] <;> rfl), by repeat (first | (with_reducible first | exact HB.out | apply below_alloc | apply pw_below_drewN | apply below_drew1) | exact HB.out)⟩
    · rw [if_neg c3] at H
      have c3b0 : (t159.toList == ([98, 46, 99, 111, 110, 102] : List UInt8)) = false := beq_eq_false_iff_ne.mpr c3
      have c3b1 : (t159.toList != ([98, 46, 99, 111, 110, 102] : List UInt8)) = true := bne_iff_ne.mpr c3
      obtain rfl := Option.some.inj H
      go_enter Tryd.func10, Tryd.ntmps10
      go_wp2_with (first | ((with_reducible refine gate_callee (f := 17) rfl ?_); refine goesL_ (some 5) rfl rfl Tryd.func17 (by kernel_rfl) rfl #[.string (⟨#[47, 97, 47, 98, 46, 99, 111, 110, 102]⟩ : ByteArray)] rfl (by (try simp only [List.map_toArray, List.map_cons, List.map_nil]); first | done | rfl | (simp only [List.length_drop, List.length_take]; rfl)) ?_; (with_reducible refine (name_Parent.calls (⟨#[47, 97, 47, 98, 46, 99, 111, 110, 102]⟩ : ByteArray) t158 t159 t160 _ A1.out).mono ?_); rintro e w14 ⟨rfl, hb⟩; refine ⟨_, rfl, ?_⟩; have n0_ := Aside0.mk (below_step (by repeat (first | (with_reducible first | exact HB.out | apply below_alloc | apply pw_below_drewN | apply below_drew1) | exact HB.out)) hb); clear HB; have HB := n0_; clear n0_; (try clear hb); (try clear hb2); (try clear hk); (try clear hi)))
      go_ret
      exact ⟨by first | rfl | (simp [errW_none, errW_some] <;> rfl) | (simp [*, errW_none, errW_some] <;> rfl), by repeat (first | (with_reducible first | exact HB.out | apply below_alloc | apply pw_below_drewN | apply below_drew1) | exact HB.out)⟩
  · rw [if_neg c2] at H
    have c2b0 : (t158.toList == ([47, 97] : List UInt8)) = false := beq_eq_false_iff_ne.mpr c2
    have c2b1 : (t158.toList != ([47, 97] : List UInt8)) = true := bne_iff_ne.mpr c2
    obtain rfl := Option.some.inj H
    go_enter Tryd.func10, Tryd.ntmps10
    go_wp2_with (first | ((with_reducible refine gate_callee (f := 17) rfl ?_); refine goesL_ (some 5) rfl rfl Tryd.func17 (by kernel_rfl) rfl #[.string (⟨#[47, 97, 47, 98, 46, 99, 111, 110, 102]⟩ : ByteArray)] rfl (by (try simp only [List.map_toArray, List.map_cons, List.map_nil]); first | done | rfl | (simp only [List.length_drop, List.length_take]; rfl)) ?_; (with_reducible refine (name_Parent.calls (⟨#[47, 97, 47, 98, 46, 99, 111, 110, 102]⟩ : ByteArray) t158 t159 t160 _ A1.out).mono ?_); rintro e w15 ⟨rfl, hb⟩; refine ⟨_, rfl, ?_⟩; have n0_ := Aside0.mk (below_step (by repeat (first | (with_reducible first | exact HB.out | apply below_alloc | apply pw_below_drewN | apply below_drew1) | exact HB.out)) hb); clear HB; have HB := n0_; clear n0_; (try clear hb); (try clear hb2); (try clear hk); (try clear hi)))
    go_ret
    exact ⟨by first | rfl | (simp [errW_none, errW_some] <;> rfl) | (simp [*, errW_none, errW_some] <;> rfl), by repeat (first | (with_reducible first | exact HB.out | apply below_alloc | apply pw_below_drewN | apply below_drew1) | exact HB.out)⟩

/-- THE ONE PURE STATEMENT of credenzalaw9_awake: yours. -/
def credenzalaw9_awake.Pure : Prop := credenzalaw9_awake.f  = some true
theorem credenzalaw9_awake.walk (P : credenzalaw9_awake.Pure)  (w : World)  :
    Calls Tryd.prog 10 #[] w fun e w' => e = .returned (.bool true) ∧ Below w.heap.size w w' := by
  have h := P  
  refine (credenzalaw9_awake.calls  true w h).mono ?_
  rintro e w' ⟨rfl, hd⟩
  exact ⟨rfl, hd⟩

end Go.Proofs.YtpalgkfilpkgeaaDoor.HRef

-- Laid by a program of this session out of the translation (the kit's printing program, with some contracts given by hand). Lean checks it.
import Derived.Lib.SlBytesConst
import Derived.Test.YtpalgkfilpkgeaaDoorPNameBytesx0
namespace Go.Proofs.YtpalgkfilpkgeaaDoor.PNameBytes
open Go.Proofs.YtpalgkfilpkgeaaDoor.Given2 Go.Proofs.YtpalgkfilpkgeaaDoor.Given7 Go.RowKit Go.Proofs.YtpalgkfilpkgeaaDoorW.PrintWords Go.Proofs.YtpalgkfilpkgeaaDoorW.PrintLast Go.Proofs.YtpalgkfilpkgeaaDoorW.PrintMore
attribute [local go_sem] max2_int min2_int max_two min_two max_three min_three max_four min_four   -- for this text's walks alone
set_option linter.unusedVariables false
set_option linter.unusedSimpArgs false

/-- A new row of five bytes reads as they are. -/
theorem lit_reads (w : World) : Kd.C (Kd.int .u8) (w.alloc (.cells #[.int .u8 46, .int .u8 43, .int .u8 45, .int .u8 95, .int .u8 126] 5 (5, 6))) (some ⟨w.heap.size, 0, none⟩) 5 ([46, 43, 45, 95, 126] : List Int) := by
  refine ⟨rfl, by decide, fun _ => ⟨_, rfl, fun j p hj => ⟨[.int .u8 p], rfl, rfl, fun i u hi => ?_⟩⟩⟩
  cases i with
  | succ i => simp at hi
  | zero =>
    obtain rfl : Value.int .u8 p = u := by simpa using hi
    have hlt : j < 5 := by
      rcases Nat.lt_or_ge j 5 with h | h
      · exact h
      · rw [List.getElem?_eq_none (by simpa using h)] at hj; cases hj
    have e : (⟨w.heap.size, 0, none⟩ : Addr).add (j * (Kd.int .u8).sz + 0) = ⟨w.heap.size, j, none⟩ := by simp [Kd.int, Kd.scalar, Addr.add]; omega
    rw [e]
    unfold World.cell?
    rw [heap_alloc_new]
    match j, hlt with
    | 0, _ | 1, _ | 2, _ | 3, _ | 4, _ => simp at hj; subst hj; rfl

/-! ### credenzalaw9_NameBytes: function 5 -/
mutual
def credenzalaw9_NameBytes.l0 : Nat → Int → Int → Int → List Int → Int → Int → Option (Bool)
  | 0, _, _, _, _, _, _ => none
  | k + 1, x0, x1, x2, x7, x18, x19 => if x19 < x18 then (if 0 ≤ x19 then (if x19 < (x7.length : Int) then (credenzalaw9_NameBytes.l0 k x0 x1 x2 (x7.set (x19 : Int).toNat 113) x18 (wrap64 (x19 + 1))) else (none)) else (none)) else (if x1 = 0 then ((name_Ok.f (⟨#[]⟩ : ByteArray)).bind fun t105 => (if t105 = true then (some false) else ((credenzalaw9_awake.f).bind fun t106 => (some t106)))) else (if 0 ≤ (Int.tmod (Go.bits .and .i64 x2 255) x1) then (if (Int.tmod (Go.bits .and .i64 x2 255) x1) < (x7.length : Int) then ((some (x7.set ((Int.tmod (Go.bits .and .i64 x2 255) x1) : Int).toNat x0 : List Int)).bind fun y107 => (if x0 ≥ 97 then (if x0 ≤ 122 then (credenzalaw9_NameBytes.j1 k x0 x1 y107 true) else (if x0 ≥ 65 then (if x0 ≤ 90 then (credenzalaw9_NameBytes.j1 k x0 x1 y107 true) else (if x0 ≥ 48 then (credenzalaw9_NameBytes.j1 k x0 x1 y107 (decide (x0 ≤ 57))) else (credenzalaw9_NameBytes.j1 k x0 x1 y107 false))) else (if x0 ≥ 48 then (credenzalaw9_NameBytes.j1 k x0 x1 y107 (decide (x0 ≤ 57))) else (credenzalaw9_NameBytes.j1 k x0 x1 y107 false)))) else (if x0 ≥ 65 then (if x0 ≤ 90 then (credenzalaw9_NameBytes.j1 k x0 x1 y107 true) else (if x0 ≥ 48 then (credenzalaw9_NameBytes.j1 k x0 x1 y107 (decide (x0 ≤ 57))) else (credenzalaw9_NameBytes.j1 k x0 x1 y107 false))) else (if x0 ≥ 48 then (credenzalaw9_NameBytes.j1 k x0 x1 y107 (decide (x0 ≤ 57))) else (credenzalaw9_NameBytes.j1 k x0 x1 y107 false))))) else (none)) else (none)))
def credenzalaw9_NameBytes.j1 : Nat → Int → Int → List Int → Bool → Option (Bool)
  | 0, _, _, _, _ => none
  | k + 1, x0, x1, x7, x9 => (some (([46, 43, 45, 95, 126] : List Int) : List Int)).bind fun y108 => (credenzalaw9_NameBytes.l1 k x0 x1 x7 x9 y108 (y108.length : Int) 0)
def credenzalaw9_NameBytes.l1 : Nat → Int → Int → List Int → Bool → List Int → Int → Int → Option (Bool)
  | 0, _, _, _, _, _, _, _ => none
  | k + 1, x0, x1, x7, x9, x63, x64, x65 => if x65 < x64 then (if 0 ≤ x65 then (if x65 < (x63.length : Int) then (if x9 = true then (credenzalaw9_NameBytes.l1 k x0 x1 x7 true x63 x64 (wrap64 (x65 + 1))) else (credenzalaw9_NameBytes.l1 k x0 x1 x7 (x0 == (rd x63 x65)) x63 x64 (wrap64 (x65 + 1)))) else (none)) else (none)) else (if x1 = 1 then (credenzalaw9_NameBytes.j3 k x1 x7 x9 (x0 == 46)) else (credenzalaw9_NameBytes.j3 k x1 x7 x9 false))
def credenzalaw9_NameBytes.j3 : Nat → Int → List Int → Bool → Bool → Option (Bool)
  | 0, _, _, _, _ => none
  | k + 1, x1, x7, x9, x81 => if x81 = true then ((name_Ok.f (strOfNums x7)).bind fun t112 => (if (t112 == false) = true then ((credenzalaw9_awake.f).bind fun t113 => (some t113)) else (some false))) else ((name_Ok.f (strOfNums x7)).bind fun t114 => (if x9 = true then (if (t114 == (decide (x1 ≤ 27))) = true then ((credenzalaw9_awake.f).bind fun t115 => (some t115)) else (some false)) else (if (t114 == false) = true then ((credenzalaw9_awake.f).bind fun t116 => (some t116)) else (some false))))
end
def credenzalaw9_NameBytes.f (k : Nat) (a0 : Int) (a1 : Int) (a2 : Int) : Option (Bool) := if 0 ≤ (Int.tmod (Go.bits .and .i64 a1 255) 31) then (if (Int.tmod (Go.bits .and .i64 a1 255) 31 : Int).toNat ≤ 281474976710656 then ((some (List.replicate (Int.tmod (Go.bits .and .i64 a1 255) 31 : Int).toNat 0 : List Int)).bind fun y101 => (credenzalaw9_NameBytes.l0 k a0 (Int.tmod (Go.bits .and .i64 a1 255) 31) a2 y101 (y101.length : Int) 0)) else (none)) else (none)
theorem credenzalaw9_NameBytes.mono_l : ∀ k, (∀ y0 y1 y2 y3 y4 y5, LeO (credenzalaw9_NameBytes.l0 k y0 y1 y2 y3 y4 y5) (credenzalaw9_NameBytes.l0 (k + 1) y0 y1 y2 y3 y4 y5)) ∧ (∀ y0 y1 y2 y3, LeO (credenzalaw9_NameBytes.j1 k y0 y1 y2 y3) (credenzalaw9_NameBytes.j1 (k + 1) y0 y1 y2 y3)) ∧ (∀ y0 y1 y2 y3 y4 y5 y6, LeO (credenzalaw9_NameBytes.l1 k y0 y1 y2 y3 y4 y5 y6) (credenzalaw9_NameBytes.l1 (k + 1) y0 y1 y2 y3 y4 y5 y6)) ∧ (∀ y0 y1 y2 y3, LeO (credenzalaw9_NameBytes.j3 k y0 y1 y2 y3) (credenzalaw9_NameBytes.j3 (k + 1) y0 y1 y2 y3))
  | 0 => ⟨fun _ _ _ _ _ _ r h => by simp [credenzalaw9_NameBytes.l0] at h, fun _ _ _ _ r h => by simp [credenzalaw9_NameBytes.j1] at h, fun _ _ _ _ _ _ _ r h => by simp [credenzalaw9_NameBytes.l1] at h, fun _ _ _ _ r h => by simp [credenzalaw9_NameBytes.j3] at h⟩
  | k + 1 => by
    obtain ⟨ih0, ih1, ih2, ih3⟩ := credenzalaw9_NameBytes.mono_l k
    refine ⟨?_, ?_, ?_, ?_⟩
    · intro y0 y1 y2 y3 y4 y5
      unfold credenzalaw9_NameBytes.l0
      repeat' first
      | (with_reducible exact ih0 _ _ _ _ _ _)
      | (with_reducible exact ih1 _ _ _ _)
      | (with_reducible exact ih2 _ _ _ _ _ _ _)
      | (with_reducible exact ih3 _ _ _ _)
      | (with_reducible exact LeO.refl _)
      | (with_reducible exact LeO.none _)
      | (with_reducible refine LeO.ite ?_ ?_)
      | (with_reducible refine LeO.bind ?_ (fun _ => ?_))
      | exact ih0 _ _ _ _ _ _
      | exact ih1 _ _ _ _
      | exact ih2 _ _ _ _ _ _ _
      | exact ih3 _ _ _ _
      | exact LeO.none _
      | refine LeO.ite ?_ ?_
      | refine LeO.bind ?_ (fun _ => ?_)
    · intro y0 y1 y2 y3
      unfold credenzalaw9_NameBytes.j1
      repeat' first
      | (with_reducible exact ih0 _ _ _ _ _ _)
      | (with_reducible exact ih1 _ _ _ _)
      | (with_reducible exact ih2 _ _ _ _ _ _ _)
      | (with_reducible exact ih3 _ _ _ _)
      | (with_reducible exact LeO.refl _)
      | (with_reducible exact LeO.none _)
      | (with_reducible refine LeO.ite ?_ ?_)
      | (with_reducible refine LeO.bind ?_ (fun _ => ?_))
      | exact ih0 _ _ _ _ _ _
      | exact ih1 _ _ _ _
      | exact ih2 _ _ _ _ _ _ _
      | exact ih3 _ _ _ _
      | exact LeO.none _
      | refine LeO.ite ?_ ?_
      | refine LeO.bind ?_ (fun _ => ?_)
    · intro y0 y1 y2 y3 y4 y5 y6
      unfold credenzalaw9_NameBytes.l1
      repeat' first
      | (with_reducible exact ih0 _ _ _ _ _ _)
      | (with_reducible exact ih1 _ _ _ _)
      | (with_reducible exact ih2 _ _ _ _ _ _ _)
      | (with_reducible exact ih3 _ _ _ _)
      | (with_reducible exact LeO.refl _)
      | (with_reducible exact LeO.none _)
      | (with_reducible refine LeO.ite ?_ ?_)
      | (with_reducible refine LeO.bind ?_ (fun _ => ?_))
      | exact ih0 _ _ _ _ _ _
      | exact ih1 _ _ _ _
      | exact ih2 _ _ _ _ _ _ _
      | exact ih3 _ _ _ _
      | exact LeO.none _
      | refine LeO.ite ?_ ?_
      | refine LeO.bind ?_ (fun _ => ?_)
    · intro y0 y1 y2 y3
      unfold credenzalaw9_NameBytes.j3
      repeat' first
      | (with_reducible exact ih0 _ _ _ _ _ _)
      | (with_reducible exact ih1 _ _ _ _)
      | (with_reducible exact ih2 _ _ _ _ _ _ _)
      | (with_reducible exact ih3 _ _ _ _)
      | (with_reducible exact LeO.refl _)
      | (with_reducible exact LeO.none _)
      | (with_reducible refine LeO.ite ?_ ?_)
      | (with_reducible refine LeO.bind ?_ (fun _ => ?_))
      | exact ih0 _ _ _ _ _ _
      | exact ih1 _ _ _ _
      | exact ih2 _ _ _ _ _ _ _
      | exact ih3 _ _ _ _
      | exact LeO.none _
      | refine LeO.ite ?_ ?_
      | refine LeO.bind ?_ (fun _ => ?_)
theorem credenzalaw9_NameBytes.mono : ∀ a0 a1 a2 k, LeO (credenzalaw9_NameBytes.f k a0 a1 a2) (credenzalaw9_NameBytes.f (k + 1) a0 a1 a2) := by
  intro a0 a1 a2 k
  obtain ⟨ih0, ih1, ih2, ih3⟩ := credenzalaw9_NameBytes.mono_l k
  unfold credenzalaw9_NameBytes.f
  repeat' first
      | (with_reducible exact ih0 _ _ _ _ _ _)
      | (with_reducible exact ih1 _ _ _ _)
      | (with_reducible exact ih2 _ _ _ _ _ _ _)
      | (with_reducible exact ih3 _ _ _ _)
      | (with_reducible exact LeO.refl _)
      | (with_reducible exact LeO.none _)
      | (with_reducible refine LeO.ite ?_ ?_)
      | (with_reducible refine LeO.bind ?_ (fun _ => ?_))
      | exact ih0 _ _ _ _ _ _
      | exact ih1 _ _ _ _
      | exact ih2 _ _ _ _ _ _ _
      | exact ih3 _ _ _ _
      | exact LeO.none _
      | refine LeO.ite ?_ ?_
      | refine LeO.bind ?_ (fun _ => ?_)
set_option maxHeartbeats 8000000 in
set_option maxRecDepth 100000 in
theorem credenzalaw9_NameBytes.calls (k : Nat) (a0 : Int) (a1 : Int) (a2 : Int) (r : Bool) (w : World) (h : credenzalaw9_NameBytes.f k a0 a1 a2 = some r) :
    Calls Tryd.prog 5 #[.int .u8 a0, .int .i64 a1, .int .i64 a2] w fun e w' => e = .returned (.bool r) ∧ Below w.heap.size w w' := by
  have HB := Aside0.mk (Below.refl w.heap.size w)
  have H : (if 0 ≤ (Int.tmod (Go.bits .and .i64 a1 255) 31) then (if (Int.tmod (Go.bits .and .i64 a1 255) 31 : Int).toNat ≤ 281474976710656 then ((some (List.replicate (Int.tmod (Go.bits .and .i64 a1 255) 31 : Int).toNat 0 : List Int)).bind fun y101 => (credenzalaw9_NameBytes.l0 k a0 (Int.tmod (Go.bits .and .i64 a1 255) 31) a2 y101 (y101.length : Int) 0)) else (none)) else (none)) = some r := h
  clear h
  obtain ⟨ji4, hji4⟩ : ∃ j_ : Int, (Int.tmod (Go.bits .and .i64 a1 255) 31) = j_ := ⟨_, rfl⟩
  replace H : (if 0 ≤ (ji4) then (if (ji4 : Int).toNat ≤ 281474976710656 then ((some (List.replicate (ji4 : Int).toNat 0 : List Int)).bind fun y101 => (credenzalaw9_NameBytes.l0 k a0 ji4 a2 y101 (y101.length : Int) 0)) else (none)) else (none)) = some r := by first | (rw [hji4] at H; exact H) | (simp only [hji4] at H ⊢; exact H)
  by_cases c5 : 0 ≤ (ji4)
  · rw [if_pos c5] at H
    have c5b0 := eq_true c5
    have c5b1 : decide (0 ≤ (ji4)) = true := decide_eq_true c5
    clear c5
    by_cases c6 : (ji4 : Int).toNat ≤ 281474976710656
    · rw [if_pos c6] at H
      have c6b0 := eq_true c6
      have c6b1 : decide ((ji4 : Int).toNat ≤ 281474976710656) = true := decide_eq_true c6
      clear c6
      obtain ⟨y101, hy101⟩ : ∃ y_ : List Int, y_ = (List.replicate (ji4 : Int).toNat 0) := ⟨_, rfl⟩
      replace H : (credenzalaw9_NameBytes.l0 k a0 ji4 a2 y101 (y101.length : Int) 0) = some r := by first | (rw [hy101]; with_reducible exact H) | (have H2_ := (Option.bind_some _ _).symm.trans H; rw [hy101]; with_reducible exact H2_) | (have H2_ := (Option.bind_some _ _).symm.trans H; with_reducible exact H2_) | with_reducible exact H | (rw [hy101]; exact H) | exact H
      have Ny101 := Aside0.mk hy101
      clear hy101
      have H' := Aside0.mk H
      clear H
      go_enter Tryd.func5, Tryd.ntmps5
      go_wp2_with (first | ((with_reducible refine gate_dst (N := 16) rfl ?_); refine Kd.R_make (Kd.int .u8) _ 5 rfl (N := 16) rfl 31 _ _ rfl ji4 rfl rfl Tryd.underlying31 (.int .u8 0) 1 info5 rfl (by decide) (by omega) 0 (ok := fun _ => True) (okp := fun _ => True) rfl (fun _ hk => hk) trivial (of_decide_eq_true (by first | (with_reducible assumption) | assumption)) (Nat.le_trans (Nat.mul_le_mul_right _ (of_decide_eq_true (by first | (with_reducible assumption) | assumption) : ji4.toNat ≤ 281474976710656)) (by omega)) (Below.refl _ _) (Nat.le_refl _) ?_; intro v102 w7 ho8 hb hg_ hnew_; clear hg_ hnew_; (first | rw [← Ny101.out] at ho8 | (simp only [Int.reduceToNat] at ho8; rw [← Ny101.out] at ho8)); have n0_ := Aside0.mk (Kd.R_lower ho8 (below_size (by repeat (first | (with_reducible first | exact HB.out | apply below_alloc | apply pw_below_drewN | apply below_drew1) | exact HB.out)))); have n1_ := Aside0.mk (below_step (by repeat (first | (with_reducible first | exact HB.out | apply below_alloc | apply pw_below_drewN | apply below_drew1) | exact HB.out)) hb); clear HB; have HO103 := n0_; have HB := n1_; clear n0_ n1_; clear hb ho8; obtain ⟨Ao9, co9, eo9⟩ := Kd.R_slice HO103.out; subst eo9))
      go_loopg [19] k (fun kq v19 w' => ∃ (x7_1 : List Int) (x19_1 : Int), v19 = .int .i64 x19_1 ∧ Aside0 (credenzalaw9_NameBytes.l0 kq a0 ji4 a2 x7_1 (y101.length : Int) x19_1 = some r) ∧ Aside0 (kq ≤ k) ∧ Aside0 (Kd.R (Kd.int .u8) 5 w' w.heap.size (fun _ => True) (.slice Ao9 y101.length co9) x7_1) ∧ Aside0 (Below w.heap.size w w'))
      case atStart => exact ⟨(y101), (0), (by first | rfl | (simp; done) | (simp [*]; done)), H', ⟨Nat.le_refl _⟩, ⟨by (with_reducible repeat (first | apply Kd.R_alloc | apply Kd.R_drewN | apply Kd.R_drew)); exact HO103.out⟩, ⟨by repeat (first | (with_reducible first | exact HB.out | apply below_alloc | apply pw_below_drewN | apply below_drew1) | exact HB.out)⟩⟩
      case round =>
        clear H'
        try clear p2
        try clear c5
        try clear c5b0
        try clear c5b1
        try clear c6
        try clear c6b0
        try clear c6b1
        obtain ⟨x7_1, x19_1, rfl, HA, HK1, HO_7, HB⟩ := hrel
        have hl7_1 := (Kd.R_reads' HO_7.out).1
        rw [hl7_1] at HO_7
        (try simp only [hl7_1])
        cases gk with
        | zero => exact absurd HA.out (by simp [credenzalaw9_NameBytes.l0])
        | succ k1 =>
          have H := HA.out
          clear HA
          simp only [credenzalaw9_NameBytes.l0] at H
          by_cases c10 : x19_1 < (y101.length : Int)
          · rw [if_pos c10] at H
            have c10b0 : decide (x19_1 < (y101.length : Int)) = true := decide_eq_true c10
            clear c10
            by_cases c11 : 0 ≤ x19_1
            · rw [if_pos c11] at H
              have c11b0 : decide (0 ≤ x19_1) = true := decide_eq_true c11
              clear c11
              by_cases c12 : x19_1 < (x7_1.length : Int)
              · rw [if_pos c12] at H
                have c12b0 : decide (x19_1 < (x7_1.length : Int)) = true := decide_eq_true c12
                clear c12
                obtain ⟨y104, hy104⟩ : ∃ y_ : List Int, y_ = (x7_1.set (x19_1 : Int).toNat 113) := ⟨_, rfl⟩
                replace H : (credenzalaw9_NameBytes.l0 k1 a0 ji4 a2 y104 (y101.length : Int) (wrap64 (x19_1 + 1))) = some r := by first | (rw [hy104]; with_reducible exact H) | (have H2_ := (Option.bind_some _ _).symm.trans H; rw [hy104]; with_reducible exact H2_) | (have H2_ := (Option.bind_some _ _).symm.trans H; with_reducible exact H2_) | with_reducible exact H | (rw [hy104]; exact H) | exact H
                have Ny104 := Aside0.mk hy104
                clear hy104
                have H' := Aside0.mk H
                clear H
                have p13 : 0 ≤ (x19_1 : Int) := of_decide_eq_true (by first | (with_reducible assumption) | assumption)
                have q13 : (x19_1 : Int) < ((x7_1.length : Int) : Int) := of_decide_eq_true (by first | (with_reducible assumption) | assumption)
                obtain ⟨go13, co13, eo13, gb13, gl13, cl13, HG13⟩ := Kd.R_form HO_7.out (by omega)
                (first | cases eo13 | (injection eo13 with ea_ en_ ec_; (first | subst ea_ | (injection ea_ with ea_; subst ea_)); subst ec_; clear en_))
                have GB13 := Aside0.mk gb13
                have GG13 := Aside0.mk HG13
                clear gb13 gl13 HG13
                obtain ⟨hx13_0, hf13_0⟩ := Kd.R_celln 0 HO_7.out (x19_1 : Int) p13 q13
                replace p13 := eq_true p13
                replace q13 := eq_true q13
                have HP14 := Kd.R_putg HO_7.out (x19_1 : Int) 113
                go_wp2_with (first | ((with_reducible refine gate_store (t := 5) (p := 24) rfl ?_); refine store_event (t := 5) (p := 24) (v := ?vo_w15) (w1 := (wr.setCell ⟨go13, (x19_1 : Int).toNat, none⟩ (.int .u8 113))) ?hg ?ho ?hn ?hr ?_; (case ho => rfl); (case hg => rfl); (case hn => rfl); (case hr => first | (go_simp; done) | (go_simp; rfl)); intro w15 hw; have hg : wr.grownBy w15 (some go13) := (by rw [hw]; exact HP14.2); have hp_ : Kd.R (Kd.int .u8) 5 w15 w.heap.size (fun _ => True) (.slice (some ⟨go13, 0, none⟩) x7_1.length co9) y104 := (by rw [hw, Ny104.out]; exact HP14.1); clear HP14; have n0_ := Aside0.mk (hp_); have n1_ := Aside0.mk ((by rw [hw]; exact below_set (HB.out) GB13.out : Below w.heap.size w w15)); clear HO_7; clear HB; have HO_7 := n0_; have HB := n1_; clear n0_ n1_; clear hg hw hp_))
                (try simp only [← hl7_1])
                go_roundg k1
                case measure => have := HK1.out; omega
                case rel => exact ⟨(y104), (wrap64 (x19_1 + 1)), (by first | rfl | (simp; done) | (simp [*]; done)), H', ⟨by have := HK1.out; omega⟩, ⟨by (try simp only [hl7_1]); (with_reducible repeat (first | apply Kd.R_alloc | apply Kd.R_drewN | apply Kd.R_drew)); exact HO_7.out⟩, ⟨by repeat (first | (with_reducible first | exact HB.out | apply below_alloc | apply pw_below_drewN | apply below_drew1) | exact HB.out)⟩⟩
              · rw [if_neg c12] at H
                exact absurd H (by simp)
            · rw [if_neg c11] at H
              exact absurd H (by simp)
          · rw [if_neg c10] at H
            have c10b0 : decide (x19_1 < (y101.length : Int)) = false := decide_eq_false c10
            have c10b9 : decide (x19_1 < (x7_1.length : Int)) = false := by rw [← hl7_1]; exact c10b0
            clear c10
            by_cases c16 : ji4 = 0
            · rw [if_pos c16] at H
              have c16b0 : (ji4 == 0) = true := beq_iff_eq.mpr c16
              have c16b1 : (ji4 != 0) = false := bne_eq_false_iff_eq.mpr c16
              clear c16
              replace H := Option.bind_eq_some_iff.mp H
              obtain ⟨t105, A170, H⟩ := H
              replace H : (if t105 = true then (some false) else ((credenzalaw9_awake.f).bind fun t106 => (some t106))) = some r := H
              have A17 := Aside0.mk A170
              clear A170
              by_cases c18 : t105 = true
              · subst c18
                have H1 : (some false) = some r := by rw [if_pos rfl] at H; exact H
                clear H
                have H := H1
                clear H1
                obtain rfl := Option.some.inj H
                go_wp2_with (first | ((with_reducible refine gate_callee (f := 16) rfl ?_); refine goesL_ (some 28) rfl rfl Tryd.func16 (by kernel_rfl) rfl #[.string (⟨#[]⟩ : ByteArray)] rfl (by (try simp only [List.map_toArray, List.map_cons, List.map_nil]); first | done | rfl | (simp only [List.length_drop, List.length_take]; rfl)) ?_; (with_reducible refine (name_Ok.calls (⟨#[]⟩ : ByteArray) true _ A17.out).mono ?_); rintro e w' ⟨rfl, ⟨nd, rfl⟩⟩; refine ⟨_, rfl, ?_⟩))
                go_ret
                exact ⟨by first | rfl | (simp [errW_none, errW_some] <;> rfl) | (simp only [← hji4]; first | rfl | (simp [errW_none, errW_some] <;> rfl)) | (simp [*, errW_none, errW_some] <;> rfl), by repeat (first | (with_reducible first | exact HB.out | apply below_alloc | apply pw_below_drewN | apply below_drew1) | exact HB.out)⟩
              · replace c18 := Bool.eq_false_iff.mpr c18
                subst c18
                have H1 : ((credenzalaw9_awake.f).bind fun t106 => (some t106)) = some r := by rw [if_neg (show ¬ (false = true) by decide)] at H; exact H
                clear H
                have H := H1
                clear H1
                replace H := Option.bind_eq_some_iff.mp H
                obtain ⟨t106, A190, H⟩ := H
                replace H : (some t106) = some r := H
                have A19 := Aside0.mk A190
                clear A190
                obtain rfl := Option.some.inj H
                go_wp2_with (first | ((with_reducible refine gate_callee (f := 16) rfl ?_); refine goesL_ (some 28) rfl rfl Tryd.func16 (by kernel_rfl) rfl #[.string (⟨#[]⟩ : ByteArray)] rfl (by (try simp only [List.map_toArray, List.map_cons, List.map_nil]); first | done | rfl | (simp only [List.length_drop, List.length_take]; rfl)) ?_; (with_reducible refine (name_Ok.calls (⟨#[]⟩ : ByteArray) false _ A17.out).mono ?_); rintro e w' ⟨rfl, ⟨nd, rfl⟩⟩; refine ⟨_, rfl, ?_⟩) | (go_at_call 10; (with_reducible refine (credenzalaw9_awake.calls  t106 _ A19.out).mono ?_); rintro e w20 ⟨rfl, hb⟩; have n0_ := Aside0.mk (Kd.R_below (by (with_reducible repeat (first | apply Kd.R_alloc | apply Kd.R_drewN | apply Kd.R_drew)); exact HO_7.out) hb); have n1_ := Aside0.mk (below_step (by repeat (first | (with_reducible first | exact HB.out | apply below_alloc | apply pw_below_drewN | apply below_drew1) | exact HB.out)) hb); clear HO_7; clear HB; have HO_7 := n0_; have HB := n1_; clear n0_ n1_; (try clear hb); (try clear hb2); (try clear hk); (try clear hi)))
                go_ret
                exact ⟨by first | rfl | (simp [errW_none, errW_some] <;> rfl) | (simp only [← hji4]; first | rfl | (simp [errW_none, errW_some] <;> rfl)) | (simp [*, errW_none, errW_some] <;> rfl), by repeat (first | (with_reducible first | exact HB.out | apply below_alloc | apply pw_below_drewN | apply below_drew1) | exact HB.out)⟩
            · rw [if_neg c16] at H
              have c16b0 : (ji4 == 0) = false := beq_eq_false_iff_ne.mpr c16
              have c16b1 : (ji4 != 0) = true := bne_iff_ne.mpr c16
              obtain ⟨ji21, hji21⟩ : ∃ j_ : Int, (Int.tmod (Go.bits .and .i64 a2 255) ji4) = j_ := ⟨_, rfl⟩
              replace H : (if 0 ≤ (ji21) then (if (ji21) < (x7_1.length : Int) then ((some (x7_1.set ((ji21) : Int).toNat a0 : List Int)).bind fun y107 => (if a0 ≥ 97 then (if a0 ≤ 122 then (credenzalaw9_NameBytes.j1 k1 a0 ji4 y107 true) else (if a0 ≥ 65 then (if a0 ≤ 90 then (credenzalaw9_NameBytes.j1 k1 a0 ji4 y107 true) else (if a0 ≥ 48 then (credenzalaw9_NameBytes.j1 k1 a0 ji4 y107 (decide (a0 ≤ 57))) else (credenzalaw9_NameBytes.j1 k1 a0 ji4 y107 false))) else (if a0 ≥ 48 then (credenzalaw9_NameBytes.j1 k1 a0 ji4 y107 (decide (a0 ≤ 57))) else (credenzalaw9_NameBytes.j1 k1 a0 ji4 y107 false)))) else (if a0 ≥ 65 then (if a0 ≤ 90 then (credenzalaw9_NameBytes.j1 k1 a0 ji4 y107 true) else (if a0 ≥ 48 then (credenzalaw9_NameBytes.j1 k1 a0 ji4 y107 (decide (a0 ≤ 57))) else (credenzalaw9_NameBytes.j1 k1 a0 ji4 y107 false))) else (if a0 ≥ 48 then (credenzalaw9_NameBytes.j1 k1 a0 ji4 y107 (decide (a0 ≤ 57))) else (credenzalaw9_NameBytes.j1 k1 a0 ji4 y107 false))))) else (none)) else (none)) = some r := by first | (rw [hji21] at H; exact H) | (simp only [hji21] at H ⊢; exact H)
              by_cases c22 : 0 ≤ (ji21)
              · rw [if_pos c22] at H
                have c22b0 : decide (0 ≤ (ji21)) = true := decide_eq_true c22
                clear c22
                by_cases c23 : (ji21) < (x7_1.length : Int)
                · rw [if_pos c23] at H
                  have c23b0 : decide ((ji21) < (x7_1.length : Int)) = true := decide_eq_true c23
                  clear c23
                  obtain ⟨y107, hy107⟩ : ∃ y_ : List Int, y_ = (x7_1.set ((ji21) : Int).toNat a0) := ⟨_, rfl⟩
                  replace H : (if a0 ≥ 97 then (if a0 ≤ 122 then (credenzalaw9_NameBytes.j1 k1 a0 ji4 y107 true) else (if a0 ≥ 65 then (if a0 ≤ 90 then (credenzalaw9_NameBytes.j1 k1 a0 ji4 y107 true) else (if a0 ≥ 48 then (credenzalaw9_NameBytes.j1 k1 a0 ji4 y107 (decide (a0 ≤ 57))) else (credenzalaw9_NameBytes.j1 k1 a0 ji4 y107 false))) else (if a0 ≥ 48 then (credenzalaw9_NameBytes.j1 k1 a0 ji4 y107 (decide (a0 ≤ 57))) else (credenzalaw9_NameBytes.j1 k1 a0 ji4 y107 false)))) else (if a0 ≥ 65 then (if a0 ≤ 90 then (credenzalaw9_NameBytes.j1 k1 a0 ji4 y107 true) else (if a0 ≥ 48 then (credenzalaw9_NameBytes.j1 k1 a0 ji4 y107 (decide (a0 ≤ 57))) else (credenzalaw9_NameBytes.j1 k1 a0 ji4 y107 false))) else (if a0 ≥ 48 then (credenzalaw9_NameBytes.j1 k1 a0 ji4 y107 (decide (a0 ≤ 57))) else (credenzalaw9_NameBytes.j1 k1 a0 ji4 y107 false)))) = some r := by first | (rw [hy107]; with_reducible exact H) | (have H2_ := (Option.bind_some _ _).symm.trans H; rw [hy107]; with_reducible exact H2_) | (have H2_ := (Option.bind_some _ _).symm.trans H; with_reducible exact H2_) | with_reducible exact H | (rw [hy107]; exact H) | exact H
                  have Ny107 := Aside0.mk hy107
                  clear hy107
                  have HC25 := Aside0.mk H
                  clear H
                  have p24 : 0 ≤ ((ji21) : Int) := of_decide_eq_true (by first | (with_reducible assumption) | assumption)
                  have q24 : ((ji21) : Int) < ((x7_1.length : Int) : Int) := of_decide_eq_true (by first | (with_reducible assumption) | assumption)
                  obtain ⟨go24, co24, eo24, gb24, gl24, cl24, HG24⟩ := Kd.R_form HO_7.out (by omega)
                  (first | cases eo24 | (injection eo24 with ea_ en_ ec_; (first | subst ea_ | (injection ea_ with ea_; subst ea_)); subst ec_; clear en_))
                  have GB24 := Aside0.mk gb24
                  have GG24 := Aside0.mk HG24
                  clear gb24 gl24 HG24
                  obtain ⟨hx24_0, hf24_0⟩ := Kd.R_celln 0 HO_7.out ((ji21) : Int) p24 q24
                  replace p24 := eq_true p24
                  replace q24 := eq_true q24
                  have HP26 := Kd.R_putg HO_7.out ((ji21) : Int) a0
                  go_upto_region 11 with (first | ((with_reducible refine gate_store (t := 5) (p := 39) rfl ?_); refine store_event (t := 5) (p := 39) (v := ?vo_w27) (w1 := (wr.setCell ⟨go24, ((ji21) : Int).toNat, none⟩ (.int .u8 a0))) ?hg ?ho ?hn ?hr ?_; (case ho => rfl); (case hg => rfl); (case hn => rfl); (case hr => first | (go_simp; done) | (go_simp; rfl)); intro w27 hw; have hg : wr.grownBy w27 (some go24) := (by rw [hw]; exact HP26.2); have hp_ : Kd.R (Kd.int .u8) 5 w27 w.heap.size (fun _ => True) (.slice (some ⟨go24, 0, none⟩) x7_1.length co9) y107 := (by rw [hw, Ny107.out]; exact HP26.1); clear HP26; have n0_ := Aside0.mk (hp_); have n1_ := Aside0.mk ((by rw [hw]; exact below_set (HB.out) GB24.out : Below w.heap.size w w27)); clear HO_7; clear HB; have HO_7 := n0_; have HB := n1_; clear n0_ n1_; clear hg hw hp_))
                  (try simp only [Act.put, List.setIfInBounds_toArray, List.set_cons_zero, List.set_cons_succ])
                  go_cut [9] (fun v9 wc => ∃ (kq : Nat) (x9_24 : Bool), v9 = .bool x9_24 ∧ Aside0 (credenzalaw9_NameBytes.j1 kq a0 ji4 y107 x9_24 = some r) ∧ Aside0 (kq ≤ k1) ∧ Aside0 (Kd.R (Kd.int .u8) 5 wc w.heap.size (fun _ => True) (.slice (some ⟨go24, 0, none⟩) x7_1.length co9) y107) ∧ Aside0 (Below w.heap.size w wc))
                  case first =>
                    have H := HC25.out
                    clear HC25
                    by_cases c28 : a0 ≥ 97
                    · rw [if_pos c28] at H
                      have c28b0 : decide (97 ≤ a0) = true := decide_eq_true c28
                      clear c28
                      (first | rw [c28b0] | (simp only [i64_w, i32_w]; rw [c28b0]) | skip)
                      by_cases c29 : a0 ≤ 122
                      · rw [if_pos c29] at H
                        have c29b0 : decide (a0 ≤ 122) = true := decide_eq_true c29
                        clear c29
                        have H' := Aside0.mk H
                        clear H
                        go_wp2
                        go_meet
                        case rel => exact ⟨_, (true), (by first | rfl | (simp; done) | (simp [*]; done)), H', ⟨by have := HK1.out; first | omega | exact Nat.le_refl _⟩, ⟨by (try simp only [hl7_1]); (with_reducible repeat (first | apply Kd.R_alloc | apply Kd.R_drewN | apply Kd.R_drew)); exact HO_7.out⟩, ⟨by repeat (first | (with_reducible first | exact HB.out | apply below_alloc | apply pw_below_drewN | apply below_drew1) | exact HB.out)⟩⟩
                      · rw [if_neg c29] at H
                        have c29b0 : decide (a0 ≤ 122) = false := decide_eq_false c29
                        clear c29
                        by_cases c30 : a0 ≥ 65
                        · rw [if_pos c30] at H
                          have c30b0 : decide (65 ≤ a0) = true := decide_eq_true c30
                          clear c30
                          by_cases c31 : a0 ≤ 90
                          · rw [if_pos c31] at H
                            have c31b0 : decide (a0 ≤ 90) = true := decide_eq_true c31
                            clear c31
                            have H' := Aside0.mk H
                            clear H
                            go_wp2
                            go_meet
                            case rel => exact ⟨_, (true), (by first | rfl | (simp; done) | (simp [*]; done)), H', ⟨by have := HK1.out; first | omega | exact Nat.le_refl _⟩, ⟨by (try simp only [hl7_1]); (with_reducible repeat (first | apply Kd.R_alloc | apply Kd.R_drewN | apply Kd.R_drew)); exact HO_7.out⟩, ⟨by repeat (first | (with_reducible first | exact HB.out | apply below_alloc | apply pw_below_drewN | apply below_drew1) | exact HB.out)⟩⟩
                          · rw [if_neg c31] at H
                            have c31b0 : decide (a0 ≤ 90) = false := decide_eq_false c31
                            clear c31
                            by_cases c32 : a0 ≥ 48
                            · rw [if_pos c32] at H
                              have c32b0 : decide (48 ≤ a0) = true := decide_eq_true c32
                              clear c32
                              have H' := Aside0.mk H
                              clear H
                              go_wp2
                              go_meet
                              case rel => exact ⟨_, (decide (a0 ≤ 57)), (by first | rfl | (simp; done) | (simp [*]; done)), H', ⟨by have := HK1.out; first | omega | exact Nat.le_refl _⟩, ⟨by (try simp only [hl7_1]); (with_reducible repeat (first | apply Kd.R_alloc | apply Kd.R_drewN | apply Kd.R_drew)); exact HO_7.out⟩, ⟨by repeat (first | (with_reducible first | exact HB.out | apply below_alloc | apply pw_below_drewN | apply below_drew1) | exact HB.out)⟩⟩
                            · rw [if_neg c32] at H
                              have c32b0 : decide (48 ≤ a0) = false := decide_eq_false c32
                              clear c32
                              have H' := Aside0.mk H
                              clear H
                              go_wp2
                              go_meet
                              case rel => exact ⟨_, (false), (by first | rfl | (simp; done) | (simp [*]; done)), H', ⟨by have := HK1.out; first | omega | exact Nat.le_refl _⟩, ⟨by (try simp only [hl7_1]); (with_reducible repeat (first | apply Kd.R_alloc | apply Kd.R_drewN | apply Kd.R_drew)); exact HO_7.out⟩, ⟨by repeat (first | (with_reducible first | exact HB.out | apply below_alloc | apply pw_below_drewN | apply below_drew1) | exact HB.out)⟩⟩
                        · rw [if_neg c30] at H
                          have c30b0 : decide (65 ≤ a0) = false := decide_eq_false c30
                          clear c30
                          by_cases c33 : a0 ≥ 48
                          · rw [if_pos c33] at H
                            have c33b0 : decide (48 ≤ a0) = true := decide_eq_true c33
                            clear c33
                            have H' := Aside0.mk H
                            clear H
                            go_wp2
                            go_meet
                            case rel => exact ⟨_, (decide (a0 ≤ 57)), (by first | rfl | (simp; done) | (simp [*]; done)), H', ⟨by have := HK1.out; first | omega | exact Nat.le_refl _⟩, ⟨by (try simp only [hl7_1]); (with_reducible repeat (first | apply Kd.R_alloc | apply Kd.R_drewN | apply Kd.R_drew)); exact HO_7.out⟩, ⟨by repeat (first | (with_reducible first | exact HB.out | apply below_alloc | apply pw_below_drewN | apply below_drew1) | exact HB.out)⟩⟩
                          · rw [if_neg c33] at H
                            have c33b0 : decide (48 ≤ a0) = false := decide_eq_false c33
                            clear c33
                            have H' := Aside0.mk H
                            clear H
                            go_wp2
                            go_meet
                            case rel => exact ⟨_, (false), (by first | rfl | (simp; done) | (simp [*]; done)), H', ⟨by have := HK1.out; first | omega | exact Nat.le_refl _⟩, ⟨by (try simp only [hl7_1]); (with_reducible repeat (first | apply Kd.R_alloc | apply Kd.R_drewN | apply Kd.R_drew)); exact HO_7.out⟩, ⟨by repeat (first | (with_reducible first | exact HB.out | apply below_alloc | apply pw_below_drewN | apply below_drew1) | exact HB.out)⟩⟩
                    · rw [if_neg c28] at H
                      have c28b0 : decide (97 ≤ a0) = false := decide_eq_false c28
                      clear c28
                      (first | rw [c28b0] | (simp only [i64_w, i32_w]; rw [c28b0]) | skip)
                      by_cases c34 : a0 ≥ 65
                      · rw [if_pos c34] at H
                        have c34b0 : decide (65 ≤ a0) = true := decide_eq_true c34
                        clear c34
                        by_cases c35 : a0 ≤ 90
                        · rw [if_pos c35] at H
                          have c35b0 : decide (a0 ≤ 90) = true := decide_eq_true c35
                          clear c35
                          have H' := Aside0.mk H
                          clear H
                          go_wp2
                          go_meet
                          case rel => exact ⟨_, (true), (by first | rfl | (simp; done) | (simp [*]; done)), H', ⟨by have := HK1.out; first | omega | exact Nat.le_refl _⟩, ⟨by (try simp only [hl7_1]); (with_reducible repeat (first | apply Kd.R_alloc | apply Kd.R_drewN | apply Kd.R_drew)); exact HO_7.out⟩, ⟨by repeat (first | (with_reducible first | exact HB.out | apply below_alloc | apply pw_below_drewN | apply below_drew1) | exact HB.out)⟩⟩
                        · rw [if_neg c35] at H
                          have c35b0 : decide (a0 ≤ 90) = false := decide_eq_false c35
                          clear c35
                          by_cases c36 : a0 ≥ 48
                          · rw [if_pos c36] at H
                            have c36b0 : decide (48 ≤ a0) = true := decide_eq_true c36
                            clear c36
                            have H' := Aside0.mk H
                            clear H
                            go_wp2
                            go_meet
                            case rel => exact ⟨_, (decide (a0 ≤ 57)), (by first | rfl | (simp; done) | (simp [*]; done)), H', ⟨by have := HK1.out; first | omega | exact Nat.le_refl _⟩, ⟨by (try simp only [hl7_1]); (with_reducible repeat (first | apply Kd.R_alloc | apply Kd.R_drewN | apply Kd.R_drew)); exact HO_7.out⟩, ⟨by repeat (first | (with_reducible first | exact HB.out | apply below_alloc | apply pw_below_drewN | apply below_drew1) | exact HB.out)⟩⟩
                          · rw [if_neg c36] at H
                            have c36b0 : decide (48 ≤ a0) = false := decide_eq_false c36
                            clear c36
                            have H' := Aside0.mk H
                            clear H
                            go_wp2
                            go_meet
                            case rel => exact ⟨_, (false), (by first | rfl | (simp; done) | (simp [*]; done)), H', ⟨by have := HK1.out; first | omega | exact Nat.le_refl _⟩, ⟨by (try simp only [hl7_1]); (with_reducible repeat (first | apply Kd.R_alloc | apply Kd.R_drewN | apply Kd.R_drew)); exact HO_7.out⟩, ⟨by repeat (first | (with_reducible first | exact HB.out | apply below_alloc | apply pw_below_drewN | apply below_drew1) | exact HB.out)⟩⟩
                      · rw [if_neg c34] at H
                        have c34b0 : decide (65 ≤ a0) = false := decide_eq_false c34
                        clear c34
                        by_cases c37 : a0 ≥ 48
                        · rw [if_pos c37] at H
                          have c37b0 : decide (48 ≤ a0) = true := decide_eq_true c37
                          clear c37
                          have H' := Aside0.mk H
                          clear H
                          go_wp2
                          go_meet
                          case rel => exact ⟨_, (decide (a0 ≤ 57)), (by first | rfl | (simp; done) | (simp [*]; done)), H', ⟨by have := HK1.out; first | omega | exact Nat.le_refl _⟩, ⟨by (try simp only [hl7_1]); (with_reducible repeat (first | apply Kd.R_alloc | apply Kd.R_drewN | apply Kd.R_drew)); exact HO_7.out⟩, ⟨by repeat (first | (with_reducible first | exact HB.out | apply below_alloc | apply pw_below_drewN | apply below_drew1) | exact HB.out)⟩⟩
                        · rw [if_neg c37] at H
                          have c37b0 : decide (48 ≤ a0) = false := decide_eq_false c37
                          clear c37
                          have H' := Aside0.mk H
                          clear H
                          go_wp2
                          go_meet
                          case rel => exact ⟨_, (false), (by first | rfl | (simp; done) | (simp [*]; done)), H', ⟨by have := HK1.out; first | omega | exact Nat.le_refl _⟩, ⟨by (try simp only [hl7_1]); (with_reducible repeat (first | apply Kd.R_alloc | apply Kd.R_drewN | apply Kd.R_drew)); exact HO_7.out⟩, ⟨by repeat (first | (with_reducible first | exact HB.out | apply below_alloc | apply pw_below_drewN | apply below_drew1) | exact HB.out)⟩⟩
                  case rest =>
                    clear HC25
                    try clear c1
                    try clear p1
                    try clear q1
                    try clear hx1
                    try clear c2
                    try clear p2
                    try clear q2
                    try clear hx2
                    try clear c3
                    try clear c5
                    try clear c5b0
                    try clear c5b1
                    try clear c6
                    try clear c6b0
                    try clear c6b1
                    try clear p6
                    try clear c10
                    try clear c10b0
                    try clear c11
                    try clear c11b0
                    try clear c12
                    try clear c12b0
                    try clear p13
                    try clear q13
                    try clear hx13
                    try clear hf13
                    try clear c16
                    try clear c16b0
                    try clear c16b1
                    try clear c18
                    try clear c22
                    try clear c22b0
                    try clear c23
                    try clear c23b0
                    try clear p24
                    try clear q24
                    try clear hx24
                    try clear hf24
                    try clear c28
                    try clear c28b0
                    try clear c29
                    try clear c29b0
                    try clear c30
                    try clear c30b0
                    try clear c31
                    try clear c31b0
                    try clear c32
                    try clear c32b0
                    try clear c33
                    try clear c33b0
                    try clear c34
                    try clear c34b0
                    try clear c35
                    try clear c35b0
                    try clear c36
                    try clear c36b0
                    try clear c37
                    try clear c37b0
                    try clear hx13_0
                    try clear hx24_0
                    try clear p13
                    try clear p2
                    try clear p24
                    try clear q13
                    try clear q24
                    obtain ⟨kq, x9_24, rfl, HA, HJ24, HO_7, HB⟩ := hcut
                    have hl7_24 := (Kd.R_reads' HO_7.out).1
                    rw [hl7_24] at HO_7
                    (try simp only [hl7_24])
                    cases kq with
                    | zero => exact absurd HA.out (by simp [credenzalaw9_NameBytes.j1])
                    | succ kj24 =>
                      have H := HA.out
                      clear HA
                      simp only [credenzalaw9_NameBytes.j1] at H
                      replace H : (credenzalaw9_NameBytes.l1 kj24 a0 ji4 y107 x9_24 ([46, 43, 45, 95, 126] : List Int) (5 : Int) 0) = some r := H
                      have H' := Aside0.mk H
                      clear H
                      have kc := fun (w : World) (C : Array Value) (n c : Nat) => Lib.run_convert_bytes_const (P := Tryd.prog) w 31 5 C n c Tryd.underlying31 Tryd.underlying5
                      have HL := Aside0.mk (lit_reads wc)
                      go_wp2
                      go_loopg [9, 65] kj24 (fun kq v9 v65 w' => ∃ (x9_3 : Bool) (x65_3 : Int), v9 = .bool x9_3 ∧ v65 = .int .i64 x65_3 ∧ Aside0 (credenzalaw9_NameBytes.l1 kq a0 ji4 y107 x9_3 ([46, 43, 45, 95, 126] : List Int) (5 : Int) x65_3 = some r) ∧ Aside0 (kq ≤ kj24) ∧ Aside0 (Kd.R (Kd.int .u8) 5 w' w.heap.size (fun _ => True) (.slice (some ⟨go24, 0, none⟩) y107.length co9) y107) ∧ Aside0 (Kd.C (Kd.int .u8) w' (some ⟨wc.heap.size, 0, none⟩) 5 ([46, 43, 45, 95, 126] : List Int)) ∧ Aside0 (Below w.heap.size w w'))
                      case atStart => exact ⟨(x9_24), (0), (by first | rfl | (simp; done) | (simp [*]; done)), (by first | rfl | (simp; done) | (simp [*]; done)), H', ⟨Nat.le_refl _⟩, ⟨by (try simp only [hl7_1]); (try simp only [hl7_24]); (with_reducible repeat (first | apply Kd.R_alloc | apply Kd.R_drewN | apply Kd.R_drew)); exact HO_7.out⟩, ⟨by (try simp only [hl7_1]); (try simp only [hl7_24]); (with_reducible repeat (first | apply Kd.R_alloc | apply Kd.R_drewN | apply Kd.R_drew)); exact HL.out⟩, ⟨by repeat (first | (with_reducible first | exact HB.out | apply below_alloc | apply pw_below_drewN | apply below_drew1) | exact HB.out)⟩⟩
                      case round =>
                        clear H'
                        try clear c1
                        try clear p1
                        try clear q1
                        try clear hx1
                        try clear c2
                        try clear p2
                        try clear q2
                        try clear hx2
                        try clear c3
                        try clear c5
                        try clear c5b0
                        try clear c5b1
                        try clear c6
                        try clear c6b0
                        try clear c6b1
                        try clear p6
                        try clear c10
                        try clear c10b0
                        try clear c11
                        try clear c11b0
                        try clear c12
                        try clear c12b0
                        try clear p13
                        try clear q13
                        try clear hx13
                        try clear hf13
                        try clear c16
                        try clear c16b0
                        try clear c16b1
                        try clear c18
                        try clear c22
                        try clear c22b0
                        try clear c23
                        try clear c23b0
                        try clear p24
                        try clear q24
                        try clear hx24
                        try clear hf24
                        try clear c28
                        try clear c28b0
                        try clear c29
                        try clear c29b0
                        try clear c30
                        try clear c30b0
                        try clear c31
                        try clear c31b0
                        try clear c32
                        try clear c32b0
                        try clear c33
                        try clear c33b0
                        try clear c34
                        try clear c34b0
                        try clear c35
                        try clear c35b0
                        try clear c36
                        try clear c36b0
                        try clear c37
                        try clear c37b0
                        try clear hx13_0
                        try clear hx24_0
                        try clear p1
                        try clear p13
                        try clear p2
                        try clear p24
                        try clear p6
                        try clear q1
                        try clear q13
                        try clear q2
                        try clear q24
                        obtain ⟨x9_3, x65_3, rfl, rfl, HA, HK3, HO_7, HO_63, HB⟩ := hrel
                        cases gk with
                        | zero => exact absurd HA.out (by simp [credenzalaw9_NameBytes.l1])
                        | succ k3 =>
                          have H := HA.out
                          clear HA
                          simp only [credenzalaw9_NameBytes.l1] at H
                          by_cases c41 : x65_3 < (5 : Int)
                          · rw [if_pos c41] at H
                            have c41b0 : decide (x65_3 < (5 : Int)) = true := decide_eq_true c41
                            clear c41
                            by_cases c42 : 0 ≤ x65_3
                            · rw [if_pos c42] at H
                              have c42b0 : decide (0 ≤ x65_3) = true := decide_eq_true c42
                              clear c42
                              by_cases c43 : x65_3 < ((([46, 43, 45, 95, 126] : List Int)).length : Int)
                              · rw [if_pos c43] at H
                                have c43b0 : decide (x65_3 < ((([46, 43, 45, 95, 126] : List Int)).length : Int)) = true := decide_eq_true c43
                                clear c43
                                by_cases c44 : x9_3 = true
                                · subst c44
                                  have H1 : (credenzalaw9_NameBytes.l1 k3 a0 ji4 y107 true ([46, 43, 45, 95, 126] : List Int) (5 : Int) (wrap64 (x65_3 + 1))) = some r := by rw [if_pos rfl] at H; exact H
                                  clear H
                                  have H := H1
                                  clear H1
                                  have H' := Aside0.mk H
                                  clear H
                                  have p111 : 0 ≤ (x65_3 : Int) := of_decide_eq_true (by first | (with_reducible assumption) | assumption)
                                  have q111 : x65_3 < (5 : Int) := of_decide_eq_true (by first | (with_reducible assumption) | assumption)
                                  obtain ⟨ad111, e111, hx111_0⟩ := Kd.at_int HO_63.out x65_3 p111 (by omega)
                                  cases e111
                                  have hx111_1 : wr.cell? ⟨wc.heap.size, x65_3.toNat, none⟩ = some (.int .u8 (rd ([46, 43, 45, 95, 126] : List Int) x65_3)) := by have h_ := hx111_0; rw [Go.WideShapes.add_plain, Nat.zero_add] at h_; exact h_
                                  clear hx111_0
                                  replace p111 := eq_true p111
                                  replace q111 := eq_true q111
                                  go_wp2
                                  go_roundg k3
                                  case measure => have := HK1.out; have := HJ24.out; have := HK3.out; omega
                                  case rel => exact ⟨(true), (wrap64 (x65_3 + 1)), (by first | rfl | (simp; done) | (simp [*]; done)), (by first | rfl | (simp; done) | (simp [*]; done)), H', ⟨by have := HK1.out; have := HJ24.out; have := HK3.out; omega⟩, ⟨by (try simp only [hl7_1]); (try simp only [hl7_24]); (with_reducible repeat (first | apply Kd.R_alloc | apply Kd.R_drewN | apply Kd.R_drew)); exact HO_7.out⟩, ⟨by (try simp only [hl7_1]); (try simp only [hl7_24]); (with_reducible repeat (first | apply Kd.C_alloc | apply Kd.C_drewN | apply Kd.C_drew)); exact HO_63.out⟩, ⟨by repeat (first | (with_reducible first | exact HB.out | apply below_alloc | apply pw_below_drewN | apply below_drew1) | exact HB.out)⟩⟩
                                · replace c44 := Bool.eq_false_iff.mpr c44
                                  subst c44
                                  have H1 : (credenzalaw9_NameBytes.l1 k3 a0 ji4 y107 (a0 == (rd ([46, 43, 45, 95, 126] : List Int) x65_3)) ([46, 43, 45, 95, 126] : List Int) (5 : Int) (wrap64 (x65_3 + 1))) = some r := by rw [if_neg (show ¬ (false = true) by decide)] at H; exact H
                                  clear H
                                  have H := H1
                                  clear H1
                                  have H' := Aside0.mk H
                                  clear H
                                  have p111 : 0 ≤ (x65_3 : Int) := of_decide_eq_true (by first | (with_reducible assumption) | assumption)
                                  have q111 : x65_3 < (5 : Int) := of_decide_eq_true (by first | (with_reducible assumption) | assumption)
                                  obtain ⟨ad111, e111, hx111_0⟩ := Kd.at_int HO_63.out x65_3 p111 (by omega)
                                  cases e111
                                  have hx111_1 : wr.cell? ⟨wc.heap.size, x65_3.toNat, none⟩ = some (.int .u8 (rd ([46, 43, 45, 95, 126] : List Int) x65_3)) := by have h_ := hx111_0; rw [Go.WideShapes.add_plain, Nat.zero_add] at h_; exact h_
                                  clear hx111_0
                                  replace p111 := eq_true p111
                                  replace q111 := eq_true q111
                                  go_wp2
                                  go_roundg k3
                                  case measure => have := HK1.out; have := HJ24.out; have := HK3.out; omega
                                  case rel => exact ⟨((a0 == (rd ([46, 43, 45, 95, 126] : List Int) x65_3))), (wrap64 (x65_3 + 1)), (by first | rfl | (simp; done) | (simp [*]; done)), (by first | rfl | (simp; done) | (simp [*]; done)), H', ⟨by have := HK1.out; have := HJ24.out; have := HK3.out; omega⟩, ⟨by (try simp only [hl7_1]); (try simp only [hl7_24]); (with_reducible repeat (first | apply Kd.R_alloc | apply Kd.R_drewN | apply Kd.R_drew)); exact HO_7.out⟩, ⟨by (try simp only [hl7_1]); (try simp only [hl7_24]); (with_reducible repeat (first | apply Kd.C_alloc | apply Kd.C_drewN | apply Kd.C_drew)); exact HO_63.out⟩, ⟨by repeat (first | (with_reducible first | exact HB.out | apply below_alloc | apply pw_below_drewN | apply below_drew1) | exact HB.out)⟩⟩
                              · rw [if_neg c43] at H
                                exact absurd H (by simp)
                            · rw [if_neg c42] at H
                              exact absurd H (by simp)
                          · rw [if_neg c41] at H
                            have c41b0 : decide (x65_3 < (5 : Int)) = false := decide_eq_false c41
                            clear c41
                            have HC45 := Aside0.mk H
                            clear H
                            go_upto_region 17 with (fail)
                            go_cut [81] (fun v81 wc => ∃ (kq : Nat) (x81_44 : Bool), v81 = .bool x81_44 ∧ Aside0 (credenzalaw9_NameBytes.j3 kq ji4 y107 x9_3 x81_44 = some r) ∧ Aside0 (kq ≤ k3) ∧ Aside0 (Kd.R (Kd.int .u8) 5 wc w.heap.size (fun _ => True) (.slice (some ⟨go24, 0, none⟩) y107.length co9) y107) ∧ Aside0 (Below w.heap.size w wc))
                            case first =>
                              have H := HC45.out
                              clear HC45
                              by_cases c46 : ji4 = 1
                              · rw [if_pos c46] at H
                                have c46b0 : (ji4 == 1) = true := beq_iff_eq.mpr c46
                                have c46b1 : (ji4 != 1) = false := bne_eq_false_iff_eq.mpr c46
                                clear c46
                                (first | rw [c46b0] | (simp only [i64_w, i32_w]; rw [c46b0]) | skip)
                                have H' := Aside0.mk H
                                clear H
                                go_wp2
                                go_meet
                                case rel => exact ⟨_, ((a0 == 46)), (by first | rfl | (simp; done) | (simp [*]; done)), H', ⟨by have := HK1.out; have := HJ24.out; have := HK3.out; first | omega | exact Nat.le_refl _⟩, ⟨by (try simp only [hl7_1]); (try simp only [hl7_24]); (with_reducible repeat (first | apply Kd.R_alloc | apply Kd.R_drewN | apply Kd.R_drew)); exact Kd.R_mono HO_7.out (fun _ hk => trivial)⟩, ⟨by repeat (first | (with_reducible first | exact HB.out | apply below_alloc | apply pw_below_drewN | apply below_drew1) | exact HB.out)⟩⟩
                              · rw [if_neg c46] at H
                                have c46b0 : (ji4 == 1) = false := beq_eq_false_iff_ne.mpr c46
                                have c46b1 : (ji4 != 1) = true := bne_iff_ne.mpr c46
                                (first | rw [c46b0] | (simp only [i64_w, i32_w]; rw [c46b0]) | skip)
                                have H' := Aside0.mk H
                                clear H
                                go_wp2
                                go_meet
                                case rel => exact ⟨_, (false), (by first | rfl | (simp; done) | (simp [*]; done)), H', ⟨by have := HK1.out; have := HJ24.out; have := HK3.out; first | omega | exact Nat.le_refl _⟩, ⟨by (try simp only [hl7_1]); (try simp only [hl7_24]); (with_reducible repeat (first | apply Kd.R_alloc | apply Kd.R_drewN | apply Kd.R_drew)); exact Kd.R_mono HO_7.out (fun _ hk => trivial)⟩, ⟨by repeat (first | (with_reducible first | exact HB.out | apply below_alloc | apply pw_below_drewN | apply below_drew1) | exact HB.out)⟩⟩
                            case rest =>
                              clear HC45
                              try clear c1
                              try clear p1
                              try clear q1
                              try clear hx1
                              try clear c2
                              try clear p2
                              try clear q2
                              try clear hx2
                              try clear c3
                              try clear c4
                              try clear c5
                              try clear c5b0
                              try clear c5b1
                              try clear c6
                              try clear c6b0
                              try clear c6b1
                              try clear p6
                              try clear c10
                              try clear c10b0
                              try clear c11
                              try clear c11b0
                              try clear p11
                              try clear q11
                              try clear hx11
                              try clear c12
                              try clear c12b0
                              try clear p13
                              try clear q13
                              try clear hx13
                              try clear hf13
                              try clear c16
                              try clear c16b0
                              try clear c16b1
                              try clear c18
                              try clear c22
                              try clear c22b0
                              try clear c23
                              try clear c23b0
                              try clear p24
                              try clear q24
                              try clear hx24
                              try clear hf24
                              try clear c28
                              try clear c28b0
                              try clear c29
                              try clear c29b0
                              try clear c30
                              try clear c30b0
                              try clear c31
                              try clear c31b0
                              try clear c32
                              try clear c32b0
                              try clear c33
                              try clear c33b0
                              try clear c34
                              try clear c34b0
                              try clear c35
                              try clear c35b0
                              try clear c36
                              try clear c36b0
                              try clear c37
                              try clear c37b0
                              try clear c41
                              try clear c41b0
                              try clear c42
                              try clear c42b0
                              try clear c43
                              try clear c43b0
                              try clear c44
                              try clear c46
                              try clear c46b0
                              try clear c46b1
                              try clear hx111_0
                              try clear hx13_0
                              try clear hx24_0
                              try clear p1
                              try clear p111
                              try clear p13
                              try clear p2
                              try clear p24
                              try clear p6
                              try clear q1
                              try clear q111
                              try clear q13
                              try clear q2
                              try clear q24
                              obtain ⟨kq, x81_44, rfl, HA, HJ44, HO_7, HB⟩ := hcut
                              cases kq with
                              | zero => exact absurd HA.out (by simp [credenzalaw9_NameBytes.j3])
                              | succ kj44 =>
                                have H := HA.out
                                clear HA
                                simp only [credenzalaw9_NameBytes.j3] at H
                                by_cases c47 : x81_44 = true
                                · subst c47
                                  have H1 : ((name_Ok.f (strOfNums y107)).bind fun t112 => (if (t112 == false) = true then ((credenzalaw9_awake.f).bind fun t113 => (some t113)) else (some false))) = some r := by rw [if_pos rfl] at H; exact H
                                  clear H
                                  have H := H1
                                  clear H1
                                  replace H := Option.bind_eq_some_iff.mp H
                                  obtain ⟨t112, A480, H⟩ := H
                                  replace H : (if (t112 == false) = true then ((credenzalaw9_awake.f).bind fun t113 => (some t113)) else (some false)) = some r := H
                                  have A48 := Aside0.mk A480
                                  clear A480
                                  by_cases c49 : (t112 == false) = true
                                  · rw [if_pos c49] at H
                                    have c49b0 : (t112 == false) = true := c49
                                    (try (have c49b1 : decide (t112 = false) = true := by simpa using c49))
                                    (try (have c49b2 : (t112 == false) = true := by simpa using c49))
                                    clear c49
                                    replace H := Option.bind_eq_some_iff.mp H
                                    obtain ⟨t113, A500, H⟩ := H
                                    replace H : (some t113) = some r := H
                                    have A50 := Aside0.mk A500
                                    clear A500
                                    obtain rfl := Option.some.inj H
                                    have hcv51 := own_string (P := Tryd.prog) Tryd.underlying31 Tryd.underlying5 Tryd.underlying9 (Kd.own_of_R HO_7.out)
                                    go_wp2_with (first | ((with_reducible refine gate_callee (f := 16) rfl ?_); refine goesL_ (some 84) rfl rfl Tryd.func16 (by kernel_rfl) rfl #[.string (strOfNums y107)] rfl (by (try simp only [List.map_toArray, List.map_cons, List.map_nil]); first | done | rfl | (simp only [List.length_drop, List.length_take]; rfl)) ?_; (with_reducible refine (name_Ok.calls (strOfNums y107) t112 _ A48.out).mono ?_); rintro e w' ⟨rfl, ⟨nd, rfl⟩⟩; refine ⟨_, rfl, ?_⟩) | (go_at_call 10; (with_reducible refine (credenzalaw9_awake.calls  t113 _ A50.out).mono ?_); rintro e w52 ⟨rfl, hb⟩; have n0_ := Aside0.mk (Kd.R_below (by (with_reducible repeat (first | apply Kd.R_alloc | apply Kd.R_drewN | apply Kd.R_drew)); exact HO_7.out) hb); have n1_ := Aside0.mk (below_step (by repeat (first | (with_reducible first | exact HB.out | apply below_alloc | apply pw_below_drewN | apply below_drew1) | exact HB.out)) hb); clear HO_7; clear HB; have HO_7 := n0_; have HB := n1_; clear n0_ n1_; (try clear hb); (try clear hb2); (try clear hk); (try clear hi)))
                                    go_ret
                                    exact ⟨by first | rfl | (simp [errW_none, errW_some] <;> rfl) | (simp only [← hji4, ← hji21]; first | rfl | (simp [errW_none, errW_some] <;> rfl)) | (simp [*, errW_none, errW_some] <;> rfl), by repeat (first | (with_reducible first | exact HB.out | apply below_alloc | apply pw_below_drewN | apply below_drew1) | exact HB.out)⟩
                                  · rw [if_neg c49] at H
                                    have c49b0 : (t112 == false) = false := by simpa using c49
                                    (try (have c49b1 : decide (t112 = false) = false := by simpa using c49))
                                    (try (have c49b2 : (t112 == false) = false := by simpa using c49))
                                    (try (have c49b3 : ¬ (t112 = false) := by simpa using c49))
                                    clear c49
                                    obtain rfl := Option.some.inj H
                                    have hcv53 := own_string (P := Tryd.prog) Tryd.underlying31 Tryd.underlying5 Tryd.underlying9 (Kd.own_of_R HO_7.out)
                                    go_wp2_with (first | ((with_reducible refine gate_callee (f := 16) rfl ?_); refine goesL_ (some 84) rfl rfl Tryd.func16 (by kernel_rfl) rfl #[.string (strOfNums y107)] rfl (by (try simp only [List.map_toArray, List.map_cons, List.map_nil]); first | done | rfl | (simp only [List.length_drop, List.length_take]; rfl)) ?_; (with_reducible refine (name_Ok.calls (strOfNums y107) t112 _ A48.out).mono ?_); rintro e w' ⟨rfl, ⟨nd, rfl⟩⟩; refine ⟨_, rfl, ?_⟩))
                                    go_ret
                                    exact ⟨by first | rfl | (simp [errW_none, errW_some] <;> rfl) | (simp only [← hji4, ← hji21]; first | rfl | (simp [errW_none, errW_some] <;> rfl)) | (simp [*, errW_none, errW_some] <;> rfl), by repeat (first | (with_reducible first | exact HB.out | apply below_alloc | apply pw_below_drewN | apply below_drew1) | exact HB.out)⟩
                                · replace c47 := Bool.eq_false_iff.mpr c47
                                  subst c47
                                  have H1 : ((name_Ok.f (strOfNums y107)).bind fun t114 => (if x9_3 = true then (if (t114 == (decide (ji4 ≤ 27))) = true then ((credenzalaw9_awake.f).bind fun t115 => (some t115)) else (some false)) else (if (t114 == false) = true then ((credenzalaw9_awake.f).bind fun t116 => (some t116)) else (some false)))) = some r := by rw [if_neg (show ¬ (false = true) by decide)] at H; exact H
                                  clear H
                                  have H := H1
                                  clear H1
                                  replace H := Option.bind_eq_some_iff.mp H
                                  obtain ⟨t114, A540, H⟩ := H
                                  replace H : (if x9_3 = true then (if (t114 == (decide (ji4 ≤ 27))) = true then ((credenzalaw9_awake.f).bind fun t115 => (some t115)) else (some false)) else (if (t114 == false) = true then ((credenzalaw9_awake.f).bind fun t116 => (some t116)) else (some false))) = some r := H
                                  have A54 := Aside0.mk A540
                                  clear A540
                                  by_cases c55 : x9_3 = true
                                  · subst c55
                                    have H1 : (if (t114 == (decide (ji4 ≤ 27))) = true then ((credenzalaw9_awake.f).bind fun t115 => (some t115)) else (some false)) = some r := by rw [if_pos rfl] at H; exact H
                                    clear H
                                    have H := H1
                                    clear H1
                                    by_cases c56 : (t114 == (decide (ji4 ≤ 27))) = true
                                    · rw [if_pos c56] at H
                                      have c56b0 : (t114 == (decide (ji4 ≤ 27))) = true := c56
                                      (try (have c56b1 : decide (t114 = (decide (ji4 ≤ 27))) = true := by simpa using c56))
                                      (try (have c56b2 : (t114 == (decide (ji4 ≤ 27))) = true := by simpa using c56))
                                      clear c56
                                      replace H := Option.bind_eq_some_iff.mp H
                                      obtain ⟨t115, A570, H⟩ := H
                                      replace H : (some t115) = some r := H
                                      have A57 := Aside0.mk A570
                                      clear A570
                                      obtain rfl := Option.some.inj H
                                      have hcv58 := own_string (P := Tryd.prog) Tryd.underlying31 Tryd.underlying5 Tryd.underlying9 (Kd.own_of_R HO_7.out)
                                      go_wp2_with (first | ((with_reducible refine gate_callee (f := 16) rfl ?_); refine goesL_ (some 84) rfl rfl Tryd.func16 (by kernel_rfl) rfl #[.string (strOfNums y107)] rfl (by (try simp only [List.map_toArray, List.map_cons, List.map_nil]); first | done | rfl | (simp only [List.length_drop, List.length_take]; rfl)) ?_; (with_reducible refine (name_Ok.calls (strOfNums y107) t114 _ A54.out).mono ?_); rintro e w' ⟨rfl, ⟨nd, rfl⟩⟩; refine ⟨_, rfl, ?_⟩) | (go_at_call 10; (with_reducible refine (credenzalaw9_awake.calls  t115 _ A57.out).mono ?_); rintro e w59 ⟨rfl, hb⟩; have n0_ := Aside0.mk (Kd.R_below (by (with_reducible repeat (first | apply Kd.R_alloc | apply Kd.R_drewN | apply Kd.R_drew)); exact HO_7.out) hb); have n1_ := Aside0.mk (below_step (by repeat (first | (with_reducible first | exact HB.out | apply below_alloc | apply pw_below_drewN | apply below_drew1) | exact HB.out)) hb); clear HO_7; clear HB; have HO_7 := n0_; have HB := n1_; clear n0_ n1_; (try clear hb); (try clear hb2); (try clear hk); (try clear hi)))
                                      go_ret
                                      exact ⟨by first | rfl | (simp [errW_none, errW_some] <;> rfl) | (simp only [← hji4, ← hji21]; first | rfl | (simp [errW_none, errW_some] <;> rfl)) | (simp [*, errW_none, errW_some] <;> rfl), by repeat (first | (with_reducible first | exact HB.out | apply below_alloc | apply pw_below_drewN | apply below_drew1) | exact HB.out)⟩
                                    · rw [if_neg c56] at H
                                      have c56b0 : (t114 == (decide (ji4 ≤ 27))) = false := by simpa using c56
                                      (try (have c56b1 : decide (t114 = (decide (ji4 ≤ 27))) = false := by simpa using c56))
                                      (try (have c56b2 : (t114 == (decide (ji4 ≤ 27))) = false := by simpa using c56))
                                      (try (have c56b3 : ¬ (t114 = (decide (ji4 ≤ 27))) := by simpa using c56))
                                      clear c56
                                      obtain rfl := Option.some.inj H
                                      have hcv60 := own_string (P := Tryd.prog) Tryd.underlying31 Tryd.underlying5 Tryd.underlying9 (Kd.own_of_R HO_7.out)
                                      go_wp2_with (first | ((with_reducible refine gate_callee (f := 16) rfl ?_); refine goesL_ (some 84) rfl rfl Tryd.func16 (by kernel_rfl) rfl #[.string (strOfNums y107)] rfl (by (try simp only [List.map_toArray, List.map_cons, List.map_nil]); first | done | rfl | (simp only [List.length_drop, List.length_take]; rfl)) ?_; (with_reducible refine (name_Ok.calls (strOfNums y107) t114 _ A54.out).mono ?_); rintro e w' ⟨rfl, ⟨nd, rfl⟩⟩; refine ⟨_, rfl, ?_⟩))
                                      go_ret
                                      exact ⟨by first | rfl | (simp [errW_none, errW_some] <;> rfl) | (simp only [← hji4, ← hji21]; first | rfl | (simp [errW_none, errW_some] <;> rfl)) | (simp [*, errW_none, errW_some] <;> rfl), by repeat (first | (with_reducible first | exact HB.out | apply below_alloc | apply pw_below_drewN | apply below_drew1) | exact HB.out)⟩
                                  · replace c55 := Bool.eq_false_iff.mpr c55
                                    subst c55
                                    have H1 : (if (t114 == false) = true then ((credenzalaw9_awake.f).bind fun t116 => (some t116)) else (some false)) = some r := by rw [if_neg (show ¬ (false = true) by decide)] at H; exact H
                                    clear H
                                    have H := H1
                                    clear H1
                                    by_cases c61 : (t114 == false) = true
                                    · rw [if_pos c61] at H
                                      have c61b0 : (t114 == false) = true := c61
                                      (try (have c61b1 : decide (t114 = false) = true := by simpa using c61))
                                      (try (have c61b2 : (t114 == false) = true := by simpa using c61))
                                      clear c61
                                      replace H := Option.bind_eq_some_iff.mp H
                                      obtain ⟨t116, A620, H⟩ := H
                                      replace H : (some t116) = some r := H
                                      have A62 := Aside0.mk A620
                                      clear A620
                                      obtain rfl := Option.some.inj H
                                      have hcv63 := own_string (P := Tryd.prog) Tryd.underlying31 Tryd.underlying5 Tryd.underlying9 (Kd.own_of_R HO_7.out)
                                      go_wp2_with (first | ((with_reducible refine gate_callee (f := 16) rfl ?_); refine goesL_ (some 84) rfl rfl Tryd.func16 (by kernel_rfl) rfl #[.string (strOfNums y107)] rfl (by (try simp only [List.map_toArray, List.map_cons, List.map_nil]); first | done | rfl | (simp only [List.length_drop, List.length_take]; rfl)) ?_; (with_reducible refine (name_Ok.calls (strOfNums y107) t114 _ A54.out).mono ?_); rintro e w' ⟨rfl, ⟨nd, rfl⟩⟩; refine ⟨_, rfl, ?_⟩) | (go_at_call 10; (with_reducible refine (credenzalaw9_awake.calls  t116 _ A62.out).mono ?_); rintro e w64 ⟨rfl, hb⟩; have n0_ := Aside0.mk (Kd.R_below (by (with_reducible repeat (first | apply Kd.R_alloc | apply Kd.R_drewN | apply Kd.R_drew)); exact HO_7.out) hb); have n1_ := Aside0.mk (below_step (by repeat (first | (with_reducible first | exact HB.out | apply below_alloc | apply pw_below_drewN | apply below_drew1) | exact HB.out)) hb); clear HO_7; clear HB; have HO_7 := n0_; have HB := n1_; clear n0_ n1_; (try clear hb); (try clear hb2); (try clear hk); (try clear hi)))
                                      go_ret
                                      exact ⟨by first | rfl | (simp [errW_none, errW_some] <;> rfl) | (simp only [← hji4, ← hji21]; first | rfl | (simp [errW_none, errW_some] <;> rfl)) | (simp [*, errW_none, errW_some] <;> rfl), by repeat (first | (with_reducible first | exact HB.out | apply below_alloc | apply pw_below_drewN | apply below_drew1) | exact HB.out)⟩
                                    · rw [if_neg c61] at H
                                      have c61b0 : (t114 == false) = false := by simpa using c61
                                      (try (have c61b1 : decide (t114 = false) = false := by simpa using c61))
                                      (try (have c61b2 : (t114 == false) = false := by simpa using c61))
                                      (try (have c61b3 : ¬ (t114 = false) := by simpa using c61))
                                      clear c61
                                      obtain rfl := Option.some.inj H
                                      have hcv65 := own_string (P := Tryd.prog) Tryd.underlying31 Tryd.underlying5 Tryd.underlying9 (Kd.own_of_R HO_7.out)
                                      go_wp2_with (first | ((with_reducible refine gate_callee (f := 16) rfl ?_); refine goesL_ (some 84) rfl rfl Tryd.func16 (by kernel_rfl) rfl #[.string (strOfNums y107)] rfl (by (try simp only [List.map_toArray, List.map_cons, List.map_nil]); first | done | rfl | (simp only [List.length_drop, List.length_take]; rfl)) ?_; (with_reducible refine (name_Ok.calls (strOfNums y107) t114 _ A54.out).mono ?_); rintro e w' ⟨rfl, ⟨nd, rfl⟩⟩; refine ⟨_, rfl, ?_⟩))
                                      go_ret
                                      exact ⟨by first | rfl | (simp [errW_none, errW_some] <;> rfl) | (simp only [← hji4, ← hji21]; first | rfl | (simp [errW_none, errW_some] <;> rfl)) | (simp [*, errW_none, errW_some] <;> rfl), by repeat (first | (with_reducible first | exact HB.out | apply below_alloc | apply pw_below_drewN | apply below_drew1) | exact HB.out)⟩
                · rw [if_neg c23] at H
                  exact absurd H (by simp)
              · rw [if_neg c22] at H
                exact absurd H (by simp)
    · rw [if_neg c6] at H
      exact absurd H (by simp)
  · rw [if_neg c5] at H
    exact absurd H (by simp)

/-- THE ONE PURE STATEMENT of credenzalaw9_NameBytes: yours. -/
def credenzalaw9_NameBytes.Pure : Prop := ∀ (a0 : Int) (a1 : Int) (a2 : Int), (Lit.int .u8 a0).wf = true → (Lit.int .i64 a1).wf = true → (Lit.int .i64 a2).wf = true → ∃ k, credenzalaw9_NameBytes.f k a0 a1 a2 = some true
theorem credenzalaw9_NameBytes.walk (P : credenzalaw9_NameBytes.Pure) (a0 : Int) (a1 : Int) (a2 : Int) (w : World) (w0 : (Lit.int .u8 a0).wf = true) (w1 : (Lit.int .i64 a1).wf = true) (w2 : (Lit.int .i64 a2).wf = true) :
    Calls Tryd.prog 5 #[.int .u8 a0, .int .i64 a1, .int .i64 a2] w fun e w' => e = .returned (.bool true) ∧ Below w.heap.size w w' := by
  obtain ⟨k, h⟩ := P a0 a1 a2 w0 w1 w2
  refine (credenzalaw9_NameBytes.calls k a0 a1 a2 true w h).mono ?_
  rintro e w' ⟨rfl, hd⟩
  exact ⟨rfl, hd⟩

end Go.Proofs.YtpalgkfilpkgeaaDoor.PNameBytes

/- place.Ok at this translation: each call answers whether the ranges may be. No condition on the input but that it is a list of ranges in memory. -/
import Derived.Test.YticjkhkmbinmgaaLays
import Derived.Test.YticjkhkmbinmgaaQCleanx0
namespace Go.Proofs.Yticjkhkmbinmgaa.GivenA
set_option linter.unusedSimpArgs false
open Go.RowKit Go.Proofs.YticjkhkmbinmgaaW.PrintWords Go.Proofs.YticjkhkmbinmgaaW.PrintLast Go.Proofs.YticjkhkmbinmgaaW.PrintMore
open Go.Proofs.Yticjkhkmbinmgaa.QClean (S25 z25 k25 k25_open)

instance : Inhabited S25 := ⟨z25⟩
def bad (x : S25) : Bool := decide (x.f0 < 0) || decide (x.f1 < x.f0) || decide (x.f1 > 1073741824)
def encS (x : S25) : List Value := [.int .i64 x.f0, .int .i64 x.f1]

set_option maxHeartbeats 1000000 in
theorem pred23 (w : World) : PredBelow Try.prog 23 #[] (fun x : S25 => .agg (encS x).toArray) bad w := fun W x hb => by
  show Calls Try.prog 23 #[.agg #[.int .i64 x.f0, .int .i64 x.f1]] W _
  unfold bad
  by_cases h1 : x.f0 < 0
  · have b1 := decide_eq_true h1
    go_enter Try.func23, Try.ntmps23
    go_wp2
    go_ret
    exact ⟨by simp [h1], below_alloc hb _⟩
  have b1 := decide_eq_false h1
  by_cases h2 : x.f1 < x.f0
  · have b2 := decide_eq_true h2
    go_enter Try.func23, Try.ntmps23
    go_wp2
    go_ret
    exact ⟨by simp [h2], below_alloc hb _⟩
  have b2 := decide_eq_false h2
  by_cases h3 : x.f1 > 1073741824
  · have b3 := decide_eq_true h3
    go_enter Try.func23, Try.ntmps23
    go_wp2
    go_ret
    exact ⟨by simp [h3], below_alloc hb _⟩
  · have b3 := decide_eq_false h3
    go_enter Try.func23, Try.ntmps23
    go_wp2
    go_ret
    exact ⟨by simp [h1, h2, h3], below_alloc hb _⟩

/-- A row of ranges that is read: where it lies. -/
theorem at_ranges {w : World} {A : Option Addr} {l : List S25} (h : Kd.C k25 w A l.length l) (hp : 0 < l.length) :
    ∃ b off, A = some ⟨b, off, none⟩ ∧ b < w.heap.size ∧ ∀ (j : Nat) x, l[j]? = some x → ∀ i v, (encS x)[i]? = some v → w.cell? ⟨b, off + j * 2 + i, none⟩ = some v := by
  obtain ⟨ad, rfl, hc⟩ := h.2.2 hp
  have cell : ∀ (j : Nat) x, l[j]? = some x → ∀ i v, (encS x)[i]? = some v → w.cell? (ad.add (j * 2 + i)) = some v := fun j x hj i v hi => by
    obtain ⟨c, _, hR, hcell⟩ := hc j x hj
    have e : c = encS x := k25_open hR
    subst e
    exact hcell i v hi
  obtain ⟨b, off, spot⟩ := ad
  have h0 := cell 0 l[0] (List.getElem?_eq_getElem hp) 0 _ rfl
  have hspot : spot = none := by simpa [Addr.add] using World.cell?_spot h0
  subst hspot
  refine ⟨b, off, rfl, ?_, fun j x hj i v hi => ?_⟩
  · have := World.block_lt_of_cell? _ _ h0
    simpa [Addr.add] using this
  · have := cell j x hj i v hi
    rw [Nat.add_assoc, ← Go.WideShapes.add_plain]; exact this

theorem eg23 : ∀ args w, (callFunc 23 args).run Try.prog w = .ok (.enter 23 args) w := enters_of Try.func23 (by kernel_rfl) rfl

theorem index30_empty (A : Option Addr) (c : Nat) (fv : Value) (w : World) : Calls Try.prog 30 #[.slice A 0 c, fv] w fun e w' => e = .returned (.int .i64 (-1)) ∧ w' = w := by
  go_enter Try.func30, Try.ntmps30
  go_wp2
  go_loopg [5, 8] 0 (fun _ _ s8 wr => s8 = .int .i64 0 ∧ wr = w)
  case atStart => exact ⟨rfl, rfl⟩
  case round =>
    obtain ⟨rfl, rfl⟩ := hrel
    go_wp2
    go_ret
    exact ⟨rfl, rfl⟩
theorem contains22_empty (A : Option Addr) (c : Nat) (fv : Value) (w : World) : Calls Try.prog 22 #[.slice A 0 c, fv] w fun e w' => e = .returned (.bool false) ∧ w' = w := by
  go_enter Try.func22, Try.ntmps22
  go_wp2_with (go_at_call 30; refine (index30_empty A c fv _).mono ?_; rintro e w' ⟨rfl, rfl⟩)
  go_ret
  exact ⟨rfl, rfl⟩
theorem contains22 {w : World} {A : Option Addr} {l : List S25} (c : Nat) (h : Kd.C k25 w A l.length l) :
    Calls Try.prog 22 #[.slice A l.length c, .func (.func 23) #[] #[]] w fun e w' => e = .returned (.bool (l.any bad)) ∧ Below w.heap.size w w' := by
  by_cases hp : 0 < l.length
  · obtain ⟨b, off, rfl, hb, hc⟩ := at_ranges h hp
    have hcon := AnyQ.slices_ContainsFunc Try.laysH8 2 Try.isAgg25 Try.sizeOf25 encS (fun _ => rfl) bad 23 #[] eg23 b off l.length c l w (pred23 w) (Nat.le_refl _) h.2.1 hb
      (fun j hj i v hi => hc j _ (by rw [getElem!_pos l j hj]; exact List.getElem?_eq_getElem hj) i v hi)
    change Calls Try.prog 22 _ _ _ at hcon
    rw [List.take_length] at hcon
    exact hcon
  · have e : l = [] := by cases l with
      | nil => rfl
      | cons _ _ => simp at hp
    subst e
    exact (contains22_empty A c _ w).mono fun e w' ⟨he, hw⟩ => ⟨he, by rw [hw]; exact Below.refl _ _⟩

def okR (l : List S25) : Bool := decide (l.length ≤ 32) && !l.any bad
def place_Ok.f (l0 : List S25) : Option Bool := some (okR l0)
set_option maxHeartbeats 1000000 in
theorem place_Ok.calls (A0 : Option Addr) (c0 : Nat) (l0 : List S25) (r : Bool) (w : World) (hr0 : Kd.C k25 w A0 l0.length l0) (_hc0 : l0.length ≤ c0) (h : place_Ok.f l0 = some r) :
    Calls Try.prog 10 #[.slice A0 l0.length c0] w fun e w' => e = .returned (.bool r) ∧ Below w.heap.size w w' := by
  obtain rfl := Option.some.inj h
  unfold okR
  by_cases hl : l0.length ≤ 32
  · have b1 : decide ((l0.length : Int) ≤ 32) = true := decide_eq_true (by omega)
    rw [decide_eq_true hl, Bool.true_and]
    have hcon := contains22 c0 hr0
    generalize l0.any bad = q at hcon ⊢
    go_enter Try.func10, Try.ntmps10
    go_wp2_with (go_at_call 22; refine hcon.mono ?_; rintro e w' ⟨rfl, hb⟩)
    go_ret
    exact ⟨rfl, hb⟩
  · have b1 : decide ((l0.length : Int) ≤ 32) = false := decide_eq_false (by omega)
    rw [decide_eq_false hl, Bool.false_and]
    go_enter Try.func10, Try.ntmps10
    go_wp2
    go_ret
    exact ⟨rfl, Below.refl _ _⟩

end Go.Proofs.Yticjkhkmbinmgaa.GivenA

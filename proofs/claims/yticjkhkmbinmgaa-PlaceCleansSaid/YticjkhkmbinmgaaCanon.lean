/- Lists of ranges: what a list covers, lists that rise and do not touch, and that such a list is told by what it covers. Plain lists alone. -/
import Derived.Test.YticjkhkmbinmgaaQCleanx0
namespace Go.Proofs.Yticjkhkmbinmgaa.Canon
open Go.Proofs.Yticjkhkmbinmgaa.QClean (S25)
open Go.RowKit Go.Proofs.YticjkhkmbinmgaaW.PrintWords Go.Proofs.YticjkhkmbinmgaaW.PrintLast Go.Proofs.YticjkhkmbinmgaaW.PrintMore

def cov (l : List S25) (t : Int) : Prop := ∃ x ∈ l, x.f0 ≤ t ∧ t < x.f1
def Can (l : List S25) : Prop := (∀ x ∈ l, x.f0 < x.f1) ∧ l.Pairwise fun a b => a.f1 < b.f0

theorem cov_nil (t : Int) : ¬ cov [] t := by rintro ⟨x, hx, _⟩; cases hx
theorem cov_cons (x : S25) (l : List S25) (t : Int) : cov (x :: l) t ↔ (x.f0 ≤ t ∧ t < x.f1) ∨ cov l t := by
  constructor
  · rintro ⟨y, hy, h⟩
    rcases List.mem_cons.1 hy with rfl | hy
    · exact .inl h
    · exact .inr ⟨y, hy, h⟩
  · rintro (h | ⟨y, hy, h⟩)
    · exact ⟨x, List.mem_cons_self, h⟩
    · exact ⟨y, List.mem_cons_of_mem _ hy, h⟩
theorem cov_append (a b : List S25) (t : Int) : cov (a ++ b) t ↔ cov a t ∨ cov b t := by
  constructor
  · rintro ⟨y, hy, h⟩
    rcases List.mem_append.1 hy with hy | hy
    · exact .inl ⟨y, hy, h⟩
    · exact .inr ⟨y, hy, h⟩
  · rintro (⟨y, hy, h⟩ | ⟨y, hy, h⟩)
    · exact ⟨y, List.mem_append_left _ hy, h⟩
    · exact ⟨y, List.mem_append_right _ hy, h⟩
theorem cov_perm {a b : List S25} (h : a.Perm b) (t : Int) : cov a t ↔ cov b t :=
  ⟨fun ⟨x, hx, k⟩ => ⟨x, h.mem_iff.1 hx, k⟩, fun ⟨x, hx, k⟩ => ⟨x, h.mem_iff.2 hx, k⟩⟩

theorem can_nil : Can [] := And.intro (fun _ hx => absurd hx List.not_mem_nil) List.Pairwise.nil
theorem can_tail {x : S25} {l : List S25} (h : Can (x :: l)) : Can l := ⟨fun y hy => h.1 y (List.mem_cons_of_mem _ hy), (List.pairwise_cons.1 h.2).2⟩
theorem can_cons {x : S25} {l : List S25} (hx : x.f0 < x.f1) (hl : Can l) (h : ∀ y ∈ l, x.f1 < y.f0) : Can (x :: l) :=
  ⟨fun y hy => by rcases List.mem_cons.1 hy with rfl | hy; exact hx; exact hl.1 y hy, List.pairwise_cons.2 ⟨h, hl.2⟩⟩
theorem can_append {a b : List S25} : Can (a ++ b) ↔ Can a ∧ Can b ∧ ∀ x ∈ a, ∀ y ∈ b, x.f1 < y.f0 := by
  unfold Can
  rw [List.pairwise_append]
  constructor
  · rintro ⟨h1, h2, h3, h4⟩
    exact ⟨⟨fun x hx => h1 x (List.mem_append_left _ hx), h2⟩, ⟨fun x hx => h1 x (List.mem_append_right _ hx), h3⟩, h4⟩
  · rintro ⟨⟨h1, h2⟩, ⟨h3, h4⟩, h5⟩
    exact ⟨fun x hx => by rcases List.mem_append.1 hx with hx | hx; exact h1 x hx; exact h3 x hx, h2, h4, h5⟩
theorem can_one {x : S25} (h : x.f0 < x.f1) : Can [x] := can_cons h can_nil (fun y hy => by cases hy)

/-- What a list covers tells it. -/
theorem can_unique : ∀ (a b : List S25), Can a → Can b → (∀ t, cov a t ↔ cov b t) → a = b
  | [], [], _, _, _ => rfl
  | [], y :: b, _, hb, h => by
    have hy := hb.1 y List.mem_cons_self
    exact absurd ((h y.f0).2 ⟨y, List.mem_cons_self, Int.le_refl _, hy⟩) (cov_nil _)
  | x :: a, [], ha, _, h => by
    have hx := ha.1 x List.mem_cons_self
    exact absurd ((h x.f0).1 ⟨x, List.mem_cons_self, Int.le_refl _, hx⟩) (cov_nil _)
  | x :: a, y :: b, ha, hb, h => by
    have hx := ha.1 x List.mem_cons_self
    have hy := hb.1 y List.mem_cons_self
    have pa := (List.pairwise_cons.1 ha.2).1
    have pb := (List.pairwise_cons.1 hb.2).1
    have least : ∀ (y : S25) (b : List S25) (z : S25), y.f0 < y.f1 → (∀ w ∈ b, y.f1 < w.f0) → z ∈ y :: b → y.f0 ≤ z.f0 := fun y b z hy pb hz => by
      rcases List.mem_cons.1 hz with rfl | hz
      · exact Int.le_refl _
      · have := pb z hz; omega
    have e0 : x.f0 = y.f0 := by
      obtain ⟨z, hz, h1, _⟩ := (h x.f0).1 ⟨x, List.mem_cons_self, Int.le_refl _, hx⟩
      obtain ⟨z', hz', h1', _⟩ := (h y.f0).2 ⟨y, List.mem_cons_self, Int.le_refl _, hy⟩
      have := least y b z hy pb hz
      have := least x a z' hx pa hz'
      omega
    have e1 : x.f1 = y.f1 := by
      rcases Int.lt_trichotomy x.f1 y.f1 with hlt | he | hgt
      · obtain ⟨z, hz, h1, h2⟩ := (h x.f1).2 ⟨y, List.mem_cons_self, by omega, hlt⟩
        rcases List.mem_cons.1 hz with rfl | hz
        · omega
        · have := pa z hz; omega
      · exact he
      · obtain ⟨z, hz, h1, h2⟩ := (h y.f1).1 ⟨x, List.mem_cons_self, by omega, hgt⟩
        rcases List.mem_cons.1 hz with rfl | hz
        · omega
        · have := pb z hz; omega
    have e : x = y := by
      cases x; cases y; simp at e0 e1; rw [e0, e1]
    subst e
    have et : a = b := by
      refine can_unique a b (can_tail ha) (can_tail hb) fun t => ?_
      constructor
      · rintro ⟨z, hz, h1, h2⟩
        have hzx := pa z hz
        obtain ⟨z', hz', k1, k2⟩ := (h t).1 ⟨z, List.mem_cons_of_mem _ hz, h1, h2⟩
        rcases List.mem_cons.1 hz' with rfl | hz'
        · omega
        · exact ⟨z', hz', k1, k2⟩
      · rintro ⟨z, hz, h1, h2⟩
        have hzx := pb z hz
        obtain ⟨z', hz', k1, k2⟩ := (h t).2 ⟨z, List.mem_cons_of_mem _ hz, h1, h2⟩
        rcases List.mem_cons.1 hz' with rfl | hz'
        · omega
        · exact ⟨z', hz', k1, k2⟩
    rw [et]

/-! ### The code's way: ranges that come by where they begin are laid one behind the other -/
def mstep (out : List S25) (x : S25) : List S25 :=
  if x.f0 = x.f1 then out else
    match out.getLast? with
    | some y => if x.f0 ≤ y.f1 then out.dropLast ++ [⟨y.f0, mx y.f1 x.f1⟩] else out ++ [x]
    | none => [x]
def merge (s : List S25) : List S25 := s.foldl mstep []

theorem mstep_spec (out : List S25) (x : S25) (h : Can out) (hx : x.f0 ≤ x.f1) (hs : ∀ y ∈ out, y.f0 ≤ x.f0) :
    Can (mstep out x) ∧ (∀ t, cov (mstep out x) t ↔ cov out t ∨ (x.f0 ≤ t ∧ t < x.f1)) ∧ ∀ y ∈ mstep out x, y.f0 ≤ x.f0 := by
  unfold mstep
  by_cases e : x.f0 = x.f1
  · rw [if_pos e]
    exact ⟨h, fun t => ⟨.inl, fun hh => hh.elim id (fun k => by omega)⟩, hs⟩
  rw [if_neg e]
  rcases List.eq_nil_or_concat out with rfl | ⟨i, y, rfl⟩
  · show Can [x] ∧ (∀ t, cov [x] t ↔ cov [] t ∨ (x.f0 ≤ t ∧ t < x.f1)) ∧ ∀ y ∈ [x], y.f0 ≤ x.f0
    refine ⟨can_one (by omega), fun t => ?_, fun y hy => ?_⟩
    · rw [cov_cons]
      exact ⟨fun k => k.elim .inr (fun k => absurd k (cov_nil t)), fun k => k.elim (fun k => absurd k (cov_nil t)) .inl⟩
    · rw [List.mem_singleton.1 hy]; exact Int.le_refl _
  rw [List.concat_eq_append] at *
  rw [List.getLast?_append, List.dropLast_concat]
  simp only [List.getLast?_singleton, Option.some_or]
  obtain ⟨hi, hy1, hiy⟩ := can_append.1 h
  have hy := hy1.1 y (by simp)
  have hyx := hs y (by simp)
  by_cases hle : x.f0 ≤ y.f1
  · rw [if_pos hle]
    have hm : y.f1 ≤ mx y.f1 x.f1 ∧ x.f1 ≤ mx y.f1 x.f1 ∧ (mx y.f1 x.f1 = y.f1 ∨ mx y.f1 x.f1 = x.f1) := by unfold mx; split <;> omega
    refine ⟨can_append.2 ⟨hi, can_one (by show y.f0 < mx y.f1 x.f1; omega), fun a ha b hb => ?_⟩, fun t => ?_, fun z hz => ?_⟩
    · rw [List.mem_singleton.1 hb]; exact hiy a ha y (by simp)
    · rw [cov_append, cov_append, cov_cons, cov_cons]
      have n := cov_nil t
      show cov i t ∨ ((y.f0 ≤ t ∧ t < mx y.f1 x.f1) ∨ cov [] t) ↔ (cov i t ∨ (y.f0 ≤ t ∧ t < y.f1) ∨ cov [] t) ∨ (x.f0 ≤ t ∧ t < x.f1)
      constructor
      · rintro (k | k | k)
        · exact .inl (.inl k)
        · by_cases hty : t < y.f1
          · exact .inl (.inr (.inl ⟨k.1, hty⟩))
          · exact .inr ⟨by omega, by omega⟩
        · exact absurd k n
      · rintro ((k | k | k) | k)
        · exact .inl k
        · exact .inr (.inl ⟨k.1, by omega⟩)
        · exact absurd k n
        · exact .inr (.inl ⟨by omega, by omega⟩)
    · rcases List.mem_append.1 hz with hz | hz
      · exact hs z (List.mem_append_left _ hz)
      · rw [List.mem_singleton.1 hz]; exact hyx
  · rw [if_neg hle]
    refine ⟨can_append.2 ⟨h, can_one (by omega), fun a ha b hb => ?_⟩, fun t => ?_, fun z hz => ?_⟩
    · rw [List.mem_singleton.1 hb]
      rcases List.mem_append.1 ha with ha | ha
      · have := hiy a ha y (by simp); omega
      · rw [List.mem_singleton.1 ha]; omega
    · rw [cov_append (i ++ [y]) [x], cov_cons]
      exact ⟨fun k => k.elim .inl (fun k => k.elim .inr (fun k => absurd k (cov_nil t))), fun k => k.elim .inl (fun k => .inr (.inl k))⟩
    · rcases List.mem_append.1 hz with hz | hz
      · exact hs z hz
      · rw [List.mem_singleton.1 hz]; exact Int.le_refl _

theorem merge_from : ∀ (s out : List S25), Can out → (∀ x ∈ s, x.f0 ≤ x.f1) → (s.Pairwise fun a b => a.f0 ≤ b.f0) → (∀ x ∈ s, ∀ y ∈ out, y.f0 ≤ x.f0) →
    Can (s.foldl mstep out) ∧ ∀ t, cov (s.foldl mstep out) t ↔ cov out t ∨ cov s t
  | [], out, h, _, _, _ => ⟨h, fun t => ⟨.inl, fun k => k.elim id (fun k => absurd k (cov_nil t))⟩⟩
  | x :: s, out, h, hx, hp, ho => by
    obtain ⟨h1, h2, h3⟩ := mstep_spec out x h (hx x List.mem_cons_self) (ho x List.mem_cons_self)
    have hp' := List.pairwise_cons.1 hp
    obtain ⟨k1, k2⟩ := merge_from s (mstep out x) h1 (fun y hy => hx y (List.mem_cons_of_mem _ hy)) hp'.2 (fun y hy z hz => by
      have := hp'.1 y hy
      have := h3 z hz
      omega)
    refine ⟨k1, fun t => ?_⟩
    rw [List.foldl_cons, k2 t, h2 t, cov_cons]
    exact or_assoc
theorem merge_spec (s : List S25) (hx : ∀ x ∈ s, x.f0 ≤ x.f1) (hp : s.Pairwise fun a b => a.f0 ≤ b.f0) : Can (merge s) ∧ ∀ t, cov (merge s) t ↔ cov s t := by
  obtain ⟨h1, h2⟩ := merge_from s [] can_nil hx hp (fun x _ y hy => by cases hy)
  exact ⟨h1, fun t => (h2 t).trans ⟨fun k => k.elim (fun k => absurd k (cov_nil t)) id, .inr⟩⟩

/-! ### The document's way: each range takes in what it meets, and is put in its place -/
def sep (x y : S25) : Prop := y.f1 < x.f0 ∨ x.f1 < y.f0
instance (x y : S25) : Decidable (sep x y) := inferInstanceAs (Decidable (_ ∨ _))
def hull (x y : S25) : S25 := ⟨mn x.f0 y.f0, mx x.f1 y.f1⟩
def absorb : List S25 → S25 → List S25 → List S25 × S25
  | rest, x, [] => (rest, x)
  | rest, x, y :: out => if sep x y then absorb (rest ++ [y]) x out else absorb rest (hull x y) out
def place (rest : List S25) (x : S25) : List S25 := rest.takeWhile (fun z => decide (z.f0 < x.f0)) ++ x :: rest.dropWhile (fun z => decide (z.f0 < x.f0))
def ins (out : List S25) (x : S25) : List S25 := if x.f0 = x.f1 then out else place (absorb [] x out).1 (absorb [] x out).2
def refC (l : List S25) : List S25 := l.foldl ins []

theorem hull_bounds (x y : S25) : (hull x y).f0 ≤ x.f0 ∧ (hull x y).f0 ≤ y.f0 ∧ ((hull x y).f0 = x.f0 ∨ (hull x y).f0 = y.f0) ∧ x.f1 ≤ (hull x y).f1 ∧ y.f1 ≤ (hull x y).f1 ∧ ((hull x y).f1 = x.f1 ∨ (hull x y).f1 = y.f1) := by
  unfold hull mn mx
  refine ⟨?_, ?_, ?_, ?_, ?_, ?_⟩ <;> simp only <;> split <;> omega

theorem absorb_spec : ∀ (out rest : List S25) (x : S25), Can (rest ++ out) → x.f0 < x.f1 → (∀ y ∈ rest, sep x y) →
    Can (absorb rest x out).1 ∧ (absorb rest x out).2.f0 < (absorb rest x out).2.f1 ∧ (∀ y ∈ (absorb rest x out).1, sep (absorb rest x out).2 y) ∧
      (∀ t, (cov (absorb rest x out).1 t ∨ ((absorb rest x out).2.f0 ≤ t ∧ t < (absorb rest x out).2.f1)) ↔ (cov rest t ∨ (x.f0 ≤ t ∧ t < x.f1)) ∨ cov out t)
  | [], rest, x, h, hx, hs => by
    rw [List.append_nil] at h
    exact ⟨h, hx, hs, fun t => ⟨.inl, fun k => k.elim id (fun k => absurd k (cov_nil t))⟩⟩
  | y :: out, rest, x, h, hx, hs => by
    obtain ⟨hr, hyo, hry⟩ := can_append.1 h
    have hy := hyo.1 y List.mem_cons_self
    unfold absorb
    by_cases hsep : sep x y
    · rw [if_pos hsep]
      obtain ⟨h1, h2, h3, h4⟩ := absorb_spec out (rest ++ [y]) x (by rw [List.append_assoc]; exact h) hx (fun z hz => by
        rcases List.mem_append.1 hz with hz | hz
        · exact hs z hz
        · rw [List.mem_singleton.1 hz]; exact hsep)
      refine ⟨h1, h2, h3, fun t => ?_⟩
      rw [h4 t, cov_append, cov_cons, cov_cons]
      have n := cov_nil t
      constructor
      · rintro ((( k | k | k) | k) | k)
        · exact .inl (.inl k)
        · exact .inr (.inl k)
        · exact absurd k n
        · exact .inl (.inr k)
        · exact .inr (.inr k)
      · rintro ((k | k) | (k | k))
        · exact .inl (.inl (.inl k))
        · exact .inl (.inr k)
        · exact .inl (.inl (.inr (.inl k)))
        · exact .inr k
    · rw [if_neg hsep]
      have hb := hull_bounds x y
      unfold sep at hsep
      obtain ⟨h1, h2, h3, h4⟩ := absorb_spec out rest (hull x y) (can_append.2 ⟨hr, can_tail hyo, fun a ha b hb => hry a ha b (List.mem_cons_of_mem _ hb)⟩) (by omega) (fun z hz => by
        have hzy := hry z hz y List.mem_cons_self
        have hz1 := hr.1 z hz
        rcases hs z hz with k | k
        · left; omega
        · omega)
      refine ⟨h1, h2, h3, fun t => ?_⟩
      rw [h4 t, cov_cons]
      constructor
      · rintro ((k | k) | k)
        · exact .inl (.inl k)
        · by_cases hxt : x.f0 ≤ t ∧ t < x.f1
          · exact .inl (.inr hxt)
          · exact .inr (.inl (by omega))
        · exact .inr (.inr k)
      · rintro ((k | k) | (k | k))
        · exact .inl (.inl k)
        · exact .inl (.inr (by omega))
        · exact .inl (.inr (by omega))
        · exact .inr k

theorem place_spec (rest : List S25) (x : S25) (h : Can rest) (hx : x.f0 < x.f1) (hs : ∀ y ∈ rest, sep x y) :
    Can (place rest x) ∧ ∀ t, cov (place rest x) t ↔ cov rest t ∨ (x.f0 ≤ t ∧ t < x.f1) := by
  have e := List.takeWhile_append_dropWhile (p := fun z : S25 => decide (z.f0 < x.f0)) (l := rest)
  have hT : ∀ z ∈ rest.takeWhile (fun z => decide (z.f0 < x.f0)), z.f0 < x.f0 := fun z hz => by
    have := List.all_eq_true.1 (List.all_takeWhile (p := fun z : S25 => decide (z.f0 < x.f0)) (l := rest)) z hz
    simpa using this
  unfold place
  generalize rest.takeWhile (fun z => decide (z.f0 < x.f0)) = a at e hT ⊢
  have hD : ∀ z ∈ rest.dropWhile (fun z => decide (z.f0 < x.f0)), ¬ z.f0 < x.f0 := fun z hz => by
    cases hd : rest.dropWhile (fun z => decide (z.f0 < x.f0)) with
    | nil => rw [hd] at hz; cases hz
    | cons d r =>
      have hd0 : ¬ d.f0 < x.f0 := by
        have := List.head?_dropWhile_not (p := fun z : S25 => decide (z.f0 < x.f0)) (l := rest)
        rw [hd] at this
        simpa using this
      rw [hd] at hz e
      rw [← e] at h
      obtain ⟨_, hdr, _⟩ := can_append.1 h
      rcases List.mem_cons.1 hz with rfl | hz
      · exact hd0
      · have := (List.pairwise_cons.1 hdr.2).1 z hz
        have := hdr.1 d List.mem_cons_self
        omega
  generalize rest.dropWhile (fun z => decide (z.f0 < x.f0)) = b at e hD ⊢
  subst e
  obtain ⟨ha, hb, hab⟩ := can_append.1 h
  refine ⟨can_append.2 ⟨ha, can_cons hx hb (fun z hz => ?_), fun p hp q hq => ?_⟩, fun t => ?_⟩
  · have h1 := hD z hz
    have h2 := hb.1 z hz
    rcases hs z (List.mem_append_right _ hz) with k | k
    · omega
    · exact k
  · rcases List.mem_cons.1 hq with rfl | hq
    · have h1 := hT p hp
      have h2 := ha.1 p hp
      rcases hs p (List.mem_append_left _ hp) with k | k
      · exact k
      · omega
    · exact hab p hp q hq
  · rw [cov_append, cov_append, cov_cons]
    constructor
    · rintro (k | k | k)
      · exact .inl (.inl k)
      · exact .inr k
      · exact .inl (.inr k)
    · rintro ((k | k) | k)
      · exact .inl k
      · exact .inr (.inr k)
      · exact .inr (.inl k)

theorem ins_spec (out : List S25) (x : S25) (h : Can out) (hx : x.f0 ≤ x.f1) : Can (ins out x) ∧ ∀ t, cov (ins out x) t ↔ cov out t ∨ (x.f0 ≤ t ∧ t < x.f1) := by
  unfold ins
  by_cases e : x.f0 = x.f1
  · rw [if_pos e]
    exact ⟨h, fun t => ⟨.inl, fun k => k.elim id (fun k => by omega)⟩⟩
  rw [if_neg e]
  obtain ⟨h1, h2, h3, h4⟩ := absorb_spec out [] x h (by omega) (fun y hy => by cases hy)
  obtain ⟨k1, k2⟩ := place_spec _ _ h1 h2 h3
  refine ⟨k1, fun t => ?_⟩
  rw [k2 t, h4 t]
  have n := cov_nil t
  constructor
  · rintro ((k | k) | k)
    · exact absurd k n
    · exact .inr k
    · exact .inl k
  · rintro (k | k)
    · exact .inr k
    · exact .inl (.inr k)
theorem refC_from : ∀ (l out : List S25), Can out → (∀ x ∈ l, x.f0 ≤ x.f1) → Can (l.foldl ins out) ∧ ∀ t, cov (l.foldl ins out) t ↔ cov out t ∨ cov l t
  | [], out, h, _ => ⟨h, fun t => ⟨.inl, fun k => k.elim id (fun k => absurd k (cov_nil t))⟩⟩
  | x :: l, out, h, hx => by
    obtain ⟨h1, h2⟩ := ins_spec out x h (hx x List.mem_cons_self)
    obtain ⟨k1, k2⟩ := refC_from l (ins out x) h1 (fun y hy => hx y (List.mem_cons_of_mem _ hy))
    refine ⟨k1, fun t => ?_⟩
    rw [List.foldl_cons, k2 t, h2 t, cov_cons]
    exact or_assoc
theorem refC_spec (l : List S25) (hx : ∀ x ∈ l, x.f0 ≤ x.f1) : Can (refC l) ∧ ∀ t, cov (refC l) t ↔ cov l t := by
  obtain ⟨h1, h2⟩ := refC_from l [] can_nil hx
  exact ⟨h1, fun t => (h2 t).trans ⟨fun k => k.elim (fun k => absurd k (cov_nil t)) id, .inr⟩⟩

/-- The code's answer is the document's, whatever order the sort left equal ranges in. -/
theorem merge_refC (l s : List S25) (hp : s.Perm l) (hs : s.Pairwise fun a b => a.f0 ≤ b.f0) (hx : ∀ x ∈ l, x.f0 ≤ x.f1) : merge s = refC l := by
  obtain ⟨h1, h2⟩ := merge_spec s (fun x hx' => hx x (hp.mem_iff.1 hx')) hs
  obtain ⟨k1, k2⟩ := refC_spec l hx
  exact can_unique _ _ h1 k1 fun t => (h2 t).trans ((cov_perm hp t).trans (k2 t).symm)

end Go.Proofs.Yticjkhkmbinmgaa.Canon

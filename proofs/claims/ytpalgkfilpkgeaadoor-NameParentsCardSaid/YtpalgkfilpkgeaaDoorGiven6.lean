/- name.Split at this translation: the call answers what the plain laws of names say (Plain). No condition on the input but its size in memory. -/
import Derived.Test.YtpalgkfilpkgeaaDoorGiven5
import Derived.Test.YtpalgkfilpkgeaaDoorGiven3
namespace Go.Proofs.YtpalgkfilpkgeaaDoor.Given2
open Go.RowKit Go.Proofs.YtpalgkfilpkgeaaDoorW.PrintWords Go.Proofs.YtpalgkfilpkgeaaDoorW.PrintLast Go.Proofs.YtpalgkfilpkgeaaDoorW.PrintMore
open Go.Proofs.YtpalgkfilpkgeaaDoor

theorem name_Split.many (a0 : ByteArray) (w : World) (h : (a0.toList == [47]) = false) (hl : ¬ (168 : Int) < (a0.size : Int)) (h1 : (1 : Int) ≤ (a0.size : Int)) (hp : GHasPrefix.strings_HasPrefix.f a0 ⟨#[47]⟩ = some true)
    (h6 : 6 < (cut (a0.extract 1 a0.size)).length) (hm : (cut (a0.extract 1 a0.size)).length ≤ 9223372036854775807) :
    Calls Tryd.prog 12 #[.string a0] w fun e w' => e = .returned (.tuple #[.slice none 0 0, .bool false]) ∧ Below w.heap.size w w' := by
  have hc := GHasPrefix.strings_HasPrefix.calls a0 ⟨#[47]⟩ true w hp
  have hs : (a0.extract 1 a0.size).size ≤ 1000 := by rw [ByteArray.size_extract]; omega
  have hr := fun (W : World) (hW : Below w.heap.size w W) => split_row (a0.extract 1 a0.size) hs w W hW hW.size
  clear hp hs
  generalize cut (a0.extract 1 a0.size) = l at hr h6 hm
  have h6' : (6 : Int) < (l.length : Int) := by omega
  clear h6
  have h1' : 1 ≤ a0.size := by omega
  go_enter Tryd.func12, Tryd.ntmps12
  go_wp2_with (first | (go_at_call 26; refine hc.mono ?_; rintro e w' ⟨rfl, hd⟩; obtain ⟨n, rfl⟩ := hd.out) | (go_at_call 27; refine (hr _ (below_drewN' (Below.refl _ _) _)).mono ?_; rintro e w' ⟨g, rfl, hn⟩))
  go_ret2
  exact ⟨rfl, hn.2.2⟩

theorem name_Split.bad (a0 : ByteArray) (w : World) (h : (a0.toList == [47]) = false) (hl : ¬ (168 : Int) < (a0.size : Int)) (h1 : (1 : Int) ≤ (a0.size : Int)) (hp : GHasPrefix.strings_HasPrefix.f a0 ⟨#[47]⟩ = some true)
    (h6 : ¬ 6 < (cut (a0.extract 1 a0.size)).length) (hb : ((cut (a0.extract 1 a0.size)).any fun s => !Plain.ok s) = true) :
    Calls Tryd.prog 12 #[.string a0] w fun e w' => e = .returned (.tuple #[.slice none 0 0, .bool false]) ∧ Below w.heap.size w w' := by
  have hc := GHasPrefix.strings_HasPrefix.calls a0 ⟨#[47]⟩ true w hp
  have hs : (a0.extract 1 a0.size).size ≤ 1000 := by rw [ByteArray.size_extract]; omega
  have hr := fun (W : World) (hW : Below w.heap.size w W) => split_row (a0.extract 1 a0.size) hs w W hW hW.size
  clear hp hs
  generalize cut (a0.extract 1 a0.size) = l at hr h6 hb
  have h6' : ¬ (6 : Int) < (l.length : Int) := by omega
  have hcon : ∀ (W : World) (g : Nat), NewRow w.heap.size w W g l → Calls Tryd.prog 23 #[.slice (some ⟨g, 0, none⟩) l.length l.length, .func (.func 28) #[] #[]] W fun e w' => e = .returned (.bool true) ∧ Below w.heap.size w w' := fun W g hn => by
    have := contains24 l.length (hn.reads (by omega)) 28 (pred28 W) (enters_of Tryd.func28 (by kernel_rfl) rfl)
    rw [hb] at this
    exact this.mono fun e w' ⟨he, q, hw⟩ => ⟨he, by rw [hw]; exact below_drewN' hn.2.2 q⟩
  clear h6 hb
  have h1' : 1 ≤ a0.size := by omega
  go_enter Tryd.func12, Tryd.ntmps12
  go_wp2_with (first | (go_at_call 26; refine hc.mono ?_; rintro e w' ⟨rfl, hd⟩; obtain ⟨n, rfl⟩ := hd.out) | (go_at_call 27; refine (hr _ (below_drewN' (Below.refl _ _) _)).mono ?_; rintro e w' ⟨g, rfl, hn⟩) | (go_at_call 23; refine (hcon _ _ hn).mono ?_; rintro e w' ⟨rfl, hw⟩))
  go_ret2
  exact ⟨rfl, hw⟩

theorem clip (g n : Nat) (W : World) (_hn : n ≤ 9223372036854775807) :
    Calls Tryd.prog 29 #[.slice (some ⟨g, 0, none⟩) n n] W fun e w' => e = .returned (.slice (some ⟨g, 0, none⟩) n n) ∧ w' = W := by
  go_enter Tryd.func29, Tryd.ntmps29
  go_wp2
  go_ret
  exact ⟨rfl, rfl⟩

theorem name_Split.fine (a0 : ByteArray) (w : World) (h : (a0.toList == [47]) = false) (hl : ¬ (168 : Int) < (a0.size : Int)) (h1 : (1 : Int) ≤ (a0.size : Int)) (hp : GHasPrefix.strings_HasPrefix.f a0 ⟨#[47]⟩ = some true)
    (h6 : ¬ 6 < (cut (a0.extract 1 a0.size)).length) (hb : ((cut (a0.extract 1 a0.size)).any fun s => !Plain.ok s) = false) :
    Calls Tryd.prog 12 #[.string a0] w fun e w' => ∃ v0_ : Value, e = .returned (.tuple #[v0_, .bool true]) ∧ Kd.R Kd.string 9 w' w.heap.size (fun _ => True) v0_ (cut (a0.extract 1 a0.size)) ∧ Below w.heap.size w w' := by
  have hc := GHasPrefix.strings_HasPrefix.calls a0 ⟨#[47]⟩ true w hp
  have hs : (a0.extract 1 a0.size).size ≤ 1000 := by rw [ByteArray.size_extract]; omega
  have hr := fun (W : World) (hW : Below w.heap.size w W) => split_row (a0.extract 1 a0.size) hs w W hW hW.size
  have hpos := cut_pos (a0.extract 1 a0.size)
  clear hp hs
  generalize cut (a0.extract 1 a0.size) = l at hr h6 hb hpos ⊢
  have h6' : ¬ (6 : Int) < (l.length : Int) := by omega
  have hcon : ∀ (W : World) (g : Nat), NewRow w.heap.size w W g l → Calls Tryd.prog 23 #[.slice (some ⟨g, 0, none⟩) l.length l.length, .func (.func 28) #[] #[]] W fun e w' => e = .returned (.bool false) ∧ NewRow w.heap.size w w' g l := fun W g hn => by
    have := contains24 l.length (hn.reads (by omega)) 28 (pred28 W) (enters_of Tryd.func28 (by kernel_rfl) rfl)
    rw [hb] at this
    exact this.mono fun e w' ⟨he, q, hw⟩ => ⟨he, by rw [hw]; exact hn.drewN q⟩
  clear hb
  have h1' : 1 ≤ a0.size := by omega
  go_enter Tryd.func12, Tryd.ntmps12
  go_wp2_with (first | (go_at_call 26; refine hc.mono ?_; rintro e w' ⟨rfl, hd⟩; obtain ⟨n, rfl⟩ := hd.out) | (go_at_call 27; refine (hr _ (below_drewN' (Below.refl _ _) _)).mono ?_; rintro e w' ⟨g, rfl, hn⟩) | (go_at_call 23; refine (hcon _ _ hn).mono ?_; clear hn; rintro e w' ⟨rfl, hn⟩) | (go_at_call 29; refine (clip _ _ _ (by omega)).mono ?_; rintro e w' ⟨rfl, rfl⟩))
  go_ret2
  exact ⟨_, rfl, hn.own (by omega), hn.2.2⟩

theorem prefix_true (a0 : ByteArray) (t : List UInt8) (h : a0.data.toList = 47 :: t) : GHasPrefix.strings_HasPrefix.f a0 ⟨#[47]⟩ = some true := by
  have hs : a0.size = t.length + 1 := by rw [Lib.size_eq, h]; rfl
  unfold GHasPrefix.strings_HasPrefix.f GHasPrefix.stringslite_HasPrefix.f
  have e1 : ((⟨#[47]⟩ : ByteArray).size : Int) = 1 := by decide
  rw [e1, if_pos (by omega), if_pos (by decide), if_pos (by omega), Option.bind_some]
  have e2 : (a0.extract 0 (1 : Int).toNat).toList = [47] := by
    rw [Lib.toList_data]
    show (a0.extract 0 1).data.toList = _
    rw [Lib.extract_from_zero, h]
    rfl
  rw [e2, Lib.toList_data]
  rfl
theorem prefix_false (a0 : ByteArray) (h : ∀ t, a0.data.toList ≠ 47 :: t) : GHasPrefix.strings_HasPrefix.f a0 ⟨#[47]⟩ = some false := by
  unfold GHasPrefix.strings_HasPrefix.f GHasPrefix.stringslite_HasPrefix.f
  have e1 : ((⟨#[47]⟩ : ByteArray).size : Int) = 1 := by decide
  rw [e1]
  by_cases hz : (a0.size : Int) ≥ 1
  · rw [if_pos hz, if_pos (by decide), if_pos (by omega), Option.bind_some]
    have e2 : ((a0.extract 0 (1 : Int).toNat).toList == (⟨#[47]⟩ : ByteArray).toList) = false := by
      rw [Lib.toList_data, Lib.toList_data]
      show ((a0.extract 0 1).data.toList == [47]) = false
      rw [Lib.extract_from_zero]
      cases hl : a0.data.toList with
      | nil => rfl
      | cons c t =>
        have hc : c ≠ 47 := fun e => h t (by rw [hl, e])
        simp [hc]
    rw [e2]
  · rw [if_neg hz]; rfl

theorem cut_rest (a0 : ByteArray) (t : List UInt8) (h : a0.data.toList = 47 :: t) : cut (a0.extract 1 a0.size) = (Plain.pieces t).map Plain.bs := by
  unfold cut
  have e : (a0.extract 1 a0.size).data.toList = t := by
    rw [Lib.extract_to_end, h]; rfl
  rw [e]
theorem any_map (ps : List (List UInt8)) : ((ps.map Plain.bs).any fun s => !Plain.ok s) = !(ps.all Plain.okL) := by
  rw [any_bad, List.map_map]
  have : ((fun x : ByteArray => x.data.toList) ∘ Plain.bs) = id := funext fun x => rfl
  rw [this, List.map_id]

theorem name_Split.calls (a0 : ByteArray) (r1 : List ByteArray) (r2 : Bool) (w : World) (h : name_Split.f a0 = some (r1, r2)) :
    Calls Tryd.prog 12 #[.string a0] w fun e w' => ∃ v0_ : Value, e = .returned (.tuple #[v0_, .bool r2]) ∧ Kd.R Kd.string 9 w' w.heap.size (fun _ => True) v0_ r1 ∧ Below w.heap.size w w' := by
  have h := Option.some.inj h
  have hs := Lib.size_eq a0
  have nilR : ∀ {b : Bool}, (Calls Tryd.prog 12 #[.string a0] w fun e w' => e = .returned (.tuple #[.slice none 0 0, .bool b]) ∧ Below w.heap.size w w') → Calls Tryd.prog 12 #[.string a0] w fun e w' => ∃ v0_ : Value, e = .returned (.tuple #[v0_, .bool b]) ∧ Kd.R Kd.string 9 w' w.heap.size (fun _ => True) v0_ [] ∧ Below w.heap.size w w' :=
    fun hc => hc.mono fun e w' ⟨he, hb⟩ => ⟨_, he, Kd.R_nil _ _ _ _ _, hb⟩
  by_cases h0 : a0.data.toList = [47]
  · have e : Plain.splitP a0.data.toList = some [] := by rw [h0]; rfl
    rw [e] at h
    obtain ⟨rfl, rfl⟩ := Prod.mk.inj h
    exact nilR (name_Split.root a0 w (by rw [Lib.toList_data, h0]; rfl))
  have h0' : (a0.toList == [47]) = false := by rw [Lib.toList_data]; simpa using h0
  by_cases hl : (168 : Int) < (a0.size : Int)
  · rw [Plain.split_long _ (by omega)] at h
    obtain ⟨rfl, rfl⟩ := Prod.mk.inj h
    exact nilR (name_Split.long a0 w h0' hl)
  cases hd : a0.data.toList with
  | nil =>
    rw [hd] at h
    obtain ⟨rfl, rfl⟩ := Prod.mk.inj h
    exact nilR (name_Split.none_ a0 w h0' hl (prefix_false a0 fun t ht => by rw [hd] at ht; cases ht))
  | cons c t =>
    rw [hd] at h
    by_cases hc : c = 47
    · subst hc
      have hp := prefix_true a0 t hd
      have h1 : (1 : Int) ≤ (a0.size : Int) := by rw [hs, hd]; simp; omega
      have hcut := cut_rest a0 t hd
      have ht : t ≠ [] := fun e => h0 (by rw [hd, e])
      have e : Plain.splitP (47 :: t) = if Plain.good (Plain.pieces t) = true then some (Plain.pieces t) else none := by
        show (if (47 : UInt8) = 47 then (if t = [] then some [] else if Plain.good (Plain.pieces t) = true then some (Plain.pieces t) else none) else none) = _
        rw [if_pos rfl, if_neg ht]
      rw [e] at h
      have hlen : (cut (a0.extract 1 a0.size)).length = (Plain.pieces t).length := by rw [hcut, List.length_map]
      by_cases h6 : 6 < (Plain.pieces t).length
      · have hg : ¬ Plain.good (Plain.pieces t) = true := fun hg => by have := Plain.good_len hg; omega
        rw [if_neg hg] at h
        obtain ⟨rfl, rfl⟩ := Prod.mk.inj h
        exact nilR (name_Split.many a0 w h0' hl h1 hp (by rw [hlen]; exact h6) (by
          have := Lib.splitB_all ⟨#[47]⟩ (by decide) 0 _ (a0.extract 1 a0.size) rfl
          have hle := Lib.countB_le ⟨#[47]⟩ (by decide) _ (a0.extract 1 a0.size) (Nat.le_refl _)
          rw [splitB_cut] at this
          rw [this]
          rw [ByteArray.size_extract] at hle
          omega))
      have hany := any_map (Plain.pieces t)
      rw [← hcut] at hany
      cases hb : (Plain.pieces t).all Plain.okL with
      | false =>
        have hg : ¬ Plain.good (Plain.pieces t) = true := fun hg => by
          unfold Plain.good at hg
          rw [Bool.and_eq_true, hb] at hg
          exact absurd hg.2 (by decide)
        rw [if_neg hg] at h
        obtain ⟨rfl, rfl⟩ := Prod.mk.inj h
        rw [hb] at hany
        exact nilR (name_Split.bad a0 w h0' hl h1 hp (by rw [hlen]; exact h6) hany)
      | true =>
        have hg : Plain.good (Plain.pieces t) = true := by
          unfold Plain.good
          rw [Bool.and_eq_true]
          exact ⟨decide_eq_true (by omega), hb⟩
        rw [if_pos hg] at h
        obtain ⟨rfl, rfl⟩ := Prod.mk.inj h
        rw [hb] at hany
        have := name_Split.fine a0 w h0' hl h1 hp (by rw [hlen]; exact h6) hany
        rw [hcut] at this
        exact this
    · have e : Plain.splitP (c :: t) = none := by
        show (if c = 47 then (if t = [] then some [] else if Plain.good (Plain.pieces t) = true then some (Plain.pieces t) else none) else none) = _
        rw [if_neg hc]
      rw [e] at h
      obtain ⟨rfl, rfl⟩ := Prod.mk.inj h
      exact nilR (name_Split.none_ a0 w h0' hl (prefix_false a0 fun t' ht => by rw [hd] at ht; exact hc (List.cons.inj ht).1))

end Go.Proofs.YtpalgkfilpkgeaaDoor.Given2

/- name.Ok, name.Join and name.Split at this translation: each call answers what the plain laws of names say (Plain). No condition on the input but that a list is a list of strings in memory. -/
import Derived.Test.YtpalgkfilpkgeaaDoorPlain
import Derived.Test.YtpalgkfilpkgeaaDoorGOkx1
import Derived.Test.YtpalgkfilpkgeaaDoorLays
import Derived.Shelf.RegionOpenPlain
namespace Go.Proofs.YtpalgkfilpkgeaaDoor.Given2
open Go.RowKit Go.Proofs.YtpalgkfilpkgeaaDoorW.PrintWords Go.Proofs.YtpalgkfilpkgeaaDoorW.PrintLast Go.Proofs.YtpalgkfilpkgeaaDoorW.PrintMore
open Go.Proofs.YtpalgkfilpkgeaaDoor

theorem sign_all : ∀ c : Fin 256, GOk.name_sign.f 3 (c.val : Int) = some (Plain.sgn (UInt8.ofNat c.val)) := by decide +kernel

theorem sign_ev (c : UInt8) : Ev (fun k => GOk.name_sign.f k (c.toNat : Int)) (Plain.sgn c) := by
  refine Ev.of (fun k => GOk.name_sign.mono _ k) (k := 3) ?_
  have h := sign_all ⟨c.toNat, c.toNat_lt⟩
  have e : UInt8.ofNat c.toNat = c := UInt8.ofNat_toNat
  rw [show ((⟨c.toNat, c.toNat_lt⟩ : Fin 256).val) = c.toNat from rfl, e] at h
  exact h

theorem bt_get (s : ByteArray) (i : Nat) (h : i < s.data.toList.length) : bt s (i : Int) = ((s.data.toList[i]).toNat : Int) := by
  have h' : i < s.size := by rw [Lib.size_eq]; exact h
  have h2 : (i : Int).toNat < s.size := by rw [Int.toNat_natCast]; exact h'
  unfold bt
  rw [dif_pos h2]
  rfl

theorem ok_loop (s : ByteArray) (hs : s.size ≤ 27) : ∀ (d i : Nat), i + d = s.size → Ev (fun k => GOk.name_Ok.l0 k s (s.size : Int) (i : Int)) ((s.data.toList.drop i).all Plain.sgn)
  | 0, i, h => by
    have e : s.data.toList.drop i = [] := List.drop_eq_nil_of_le (by rw [← Lib.size_eq]; omega)
    rw [e]
    refine Ev.step (f := fun _ => some true) (fun k => ?_) (Ev.now true)
    simp only [GOk.name_Ok.l0]
    rw [if_neg (by omega)]
  | d + 1, i, h => by
    have hi : i < s.data.toList.length := by rw [← Lib.size_eq]; omega
    rw [List.drop_eq_getElem_cons hi, List.all_cons]
    have hs' := sign_ev (s.data.toList[i])
    have ih := ok_loop s hs d (i + 1) (by omega)
    have hw : wrap64 ((i : Int) + 1) = ((i + 1 : Nat) : Int) := by unfold wrap64; omega
    refine Ev.step (f := fun k => (GOk.name_sign.f k ((s.data.toList[i]).toNat : Int)).bind fun t103 => (if t103 = true then (GOk.name_Ok.l0 k s (s.size : Int) ((i + 1 : Nat) : Int)) else (some false))) (fun k => ?_) ?_
    · simp only [GOk.name_Ok.l0]
      rw [if_pos (by omega), if_pos (by omega), if_pos (by omega), bt_get s i hi, hw]
    · refine Ev.bind hs' ?_
      cases hc : Plain.sgn s.data.toList[i] with
      | true => simpa using ih
      | false => simpa using Ev.now false

theorem ok_ev (s : ByteArray) : Ev (fun k => GOk.name_Ok.f k s) (Plain.ok s) := by
  have e1 : (s.toList = ([46] : List UInt8)) ↔ s.data.toList = [46] := by rw [Lib.toList_data]
  have e2 : (s.toList == ([46, 46] : List UInt8)) = (s.data.toList == [46, 46]) := by rw [Lib.toList_data]
  have no : ∀ r : Bool, Ev (fun k => GOk.name_Ok.j0 k s true) false := fun _ => Ev.step (f := fun _ => some false) (fun k => by simp only [GOk.name_Ok.j0]; rw [if_pos trivial]) (Ev.now false)
  unfold GOk.name_Ok.f Plain.ok Plain.okL
  rw [← Lib.size_eq]
  by_cases h1 : (s.size : Int) < 1
  · have : decide (1 ≤ s.size) = false := decide_eq_false (by omega)
    rw [this]
    simp only [Bool.false_and]
    exact Ev.congr (fun k => by rw [if_pos h1]) (no true)
  have d1 : decide (1 ≤ s.size) = true := decide_eq_true (by omega)
  by_cases h2 : (s.size : Int) > 27
  · have : decide (s.size ≤ 27) = false := decide_eq_false (by omega)
    rw [this]
    simp only [Bool.and_false, Bool.false_and]
    exact Ev.congr (fun k => by rw [if_neg h1, if_pos h2]) (no true)
  have d2 : decide (s.size ≤ 27) = true := decide_eq_true (by omega)
  rw [d1, d2]
  by_cases h3 : s.data.toList = [46]
  · have : (s.data.toList == [46]) = true := by rw [h3]; decide
    rw [this]
    simp only [Bool.not_true, Bool.and_false, Bool.false_and]
    exact Ev.congr (fun k => by rw [if_neg h1, if_neg h2, if_pos (e1.2 h3)]) (no true)
  have d3 : (s.data.toList == [46]) = false := by simpa using h3
  rw [d3]
  by_cases h4 : (s.data.toList == [46, 46]) = true
  · rw [h4]
    simp only [Bool.not_true, Bool.and_false, Bool.false_and]
    exact Ev.congr (fun k => by rw [if_neg h1, if_neg h2, if_neg (fun h => h3 (e1.1 h)), e2, h4]) (no true)
  have d4 : (s.data.toList == [46, 46]) = false := by simpa using h4
  rw [d4]
  simp only [Bool.not_false, Bool.and_true, Bool.true_and]
  have hl := ok_loop s (by omega) s.size 0 (by omega)
  rw [List.drop_zero] at hl
  refine Ev.congr (f := fun k => GOk.name_Ok.j0 k s false) (fun k => ?_) (Ev.step (f := fun k => GOk.name_Ok.l0 k s (s.size : Int) 0) (fun k => ?_) hl)
  · rw [if_neg h1, if_neg h2, if_neg (fun h => h3 (e1.1 h)), e2, d4]
  · simp only [GOk.name_Ok.j0]
    rw [if_neg (by decide)]

def name_Ok.f (a0 : ByteArray) : Option Bool := some (Plain.ok a0)
theorem name_Ok.calls (a0 : ByteArray) (r : Bool) (w : World) (h : name_Ok.f a0 = some r) :
    Calls Tryd.prog 16 #[.string a0] w fun e w' => e = .returned (.bool r) ∧ Drawn0 w w' := by
  obtain rfl := Option.some.inj h
  obtain ⟨k, hk⟩ := (ok_ev a0).rounds
  exact GOk.name_Ok.calls k a0 _ w hk


/-! ### the closures of Join and Split: 'not a name' -/
theorem pred24 (w : World) : PredAt Tryd.prog 24 #[] Value.string (fun s => !Plain.ok s) w := fun W x _ => by
  show Calls Tryd.prog 24 #[.string x] W _
  have h := name_Ok.calls x (Plain.ok x) W rfl
  go_enter Tryd.func24, Tryd.ntmps24
  go_wp2_with (go_at_call 16; refine h.mono ?_; rintro e w' ⟨rfl, hd⟩; obtain ⟨n, rfl⟩ := hd.out)
  go_ret
  exact ⟨rfl, _, rfl⟩
theorem pred28 (w : World) : PredAt Tryd.prog 28 #[] Value.string (fun s => !Plain.ok s) w := fun W x _ => by
  show Calls Tryd.prog 28 #[.string x] W _
  have h := name_Ok.calls x (Plain.ok x) W rfl
  go_enter Tryd.func28, Tryd.ntmps28
  go_wp2_with (go_at_call 16; refine h.mono ?_; rintro e w' ⟨rfl, hd⟩; obtain ⟨n, rfl⟩ := hd.out)
  go_ret
  exact ⟨rfl, _, rfl⟩

/-- A row of strings that is read: where it lies. -/
theorem at_strings {w : World} {A : Option Addr} {l : List ByteArray} (h : Kd.C Kd.string w A l.length l) (hp : 0 < l.length) :
    ∃ b off, A = some ⟨b, off, none⟩ ∧ b < w.heap.size ∧ ∀ (j : Nat) x, l[j]? = some x → w.cell? ⟨b, off + j, none⟩ = some (.string x) := by
  obtain ⟨ad, rfl, hc⟩ := h.2.2 hp
  have cell : ∀ (j : Nat) x, l[j]? = some x → w.cell? (ad.add j) = some (.string x) := fun j x hj => by
    obtain ⟨c, _, hR, hcell⟩ := hc j x hj
    have e : c = [.string x] := hR
    subst e
    have := hcell 0 (.string x) rfl
    simpa [Kd.string, Kd.scalar] using this
  obtain ⟨b, off, spot⟩ := ad
  have h0 := cell 0 l[0] (List.getElem?_eq_getElem hp)
  have hspot : spot = none := by simpa [Addr.add] using World.cell?_spot h0
  subst hspot
  refine ⟨b, off, rfl, ?_, fun j x hj => ?_⟩
  · have := World.block_lt_of_cell? _ _ h0
    simpa [Addr.add] using this
  · rw [← Go.WideShapes.add_plain]; exact cell j x hj

theorem contains24 {w : World} {A : Option Addr} {l : List ByteArray} (c : Nat) (h : Kd.C Kd.string w A l.length l) (g : Nat) (hg : PredAt Tryd.prog g #[] Value.string (fun s => !Plain.ok s) w)
    (eg : ∀ args w, (callFunc g args).run Tryd.prog w = .ok (.enter g args) w) :
    Calls Tryd.prog 23 #[.slice A l.length c, .func (.func g) #[] #[]] w fun e w' => e = .returned (.bool (l.any fun s => !Plain.ok s)) ∧ ∃ q, w' = w.drewN q := by
  by_cases hp : 0 < l.length
  · obtain ⟨b, off, rfl, _, hc⟩ := at_strings h hp
    have hcon := AnyE.slices_ContainsFunc Tryd.laysH8 Value.string (fun s => !Plain.ok s) g #[] eg b off l.length c l w hg (Nat.le_refl _) h.2.1
      (fun j hj => hc j _ (by rw [getElem!_pos l j hj]; exact List.getElem?_eq_getElem hj))
    change Calls Tryd.prog 23 _ _ _ at hcon
    rw [List.take_length] at hcon
    exact hcon
  · have e : l = [] := by cases l with
      | nil => rfl
      | cons _ _ => simp at hp
    subst e
    have hcon := AnyE.slices_ContainsFunc_empty Tryd.laysH8 A c (.func (.func g) #[] #[]) w
    change Calls Tryd.prog 23 _ _ _ at hcon
    exact hcon.mono fun e w' ⟨he, hw⟩ => ⟨he, 0, hw⟩

def name_Join.f (l0 : List ByteArray) : Option (ByteArray × Bool) :=
  some (if Plain.good (l0.map (·.data.toList)) = true then (Plain.bs (Plain.pathOf (l0.map (·.data.toList))), true) else ((⟨#[]⟩ : ByteArray), false))

end Go.Proofs.YtpalgkfilpkgeaaDoor.Given2

/- The document's functions on names and paths, as printed, come to what the plain laws of names say (Plain). -/
import Derived.Test.YtpalgkfilpkgeaaDoorHRefx
namespace Go.Proofs.YtpalgkfilpkgeaaDoor.Ref
open Go.RowKit Go.Proofs.YtpalgkfilpkgeaaDoorW.PrintWords Go.Proofs.YtpalgkfilpkgeaaDoorW.PrintLast Go.Proofs.YtpalgkfilpkgeaaDoorW.PrintMore
open Go.Proofs.YtpalgkfilpkgeaaDoor
open Go.Proofs.YtpalgkfilpkgeaaDoor.Given2 (bt_get name_Split.f name_Join.f)

def letterStep (c : Int) : Option Bool :=
  (HRef.credenzaref2_Letter.f c).bind fun t101 => (if t101 = true then some true else (if c = 46 then some true else (if c = 43 then some true else (if c = 45 then some true else (if c = 95 then some true else (if c = 126 then some true else some false))))))
theorem letter_all : ∀ c : Fin 256, letterStep (c.val : Int) = some (Plain.sgn (UInt8.ofNat c.val)) := by decide +kernel
theorem letter_step (c : UInt8) : letterStep (c.toNat : Int) = some (Plain.sgn c) := by
  have h := letter_all ⟨c.toNat, c.toNat_lt⟩
  have e : UInt8.ofNat c.toNat = c := UInt8.ofNat_toNat
  rw [show ((⟨c.toNat, c.toNat_lt⟩ : Fin 256).val) = c.toNat from rfl, e] at h
  exact h
theorem letter_bind (c : Int) (r : Bool) (h : letterStep c = some r) (x : Option Bool) :
    ((HRef.credenzaref2_Letter.f c).bind fun t101 => (if t101 = true then x else (if c = 46 then x else (if c = 43 then x else (if c = 45 then x else (if c = 95 then x else (if c = 126 then x else (some false)))))))) = if r = true then x else some false := by
  unfold letterStep at h
  cases hl : HRef.credenzaref2_Letter.f c with
  | none => rw [hl] at h; cases h
  | some t =>
    rw [hl, Option.bind_some] at h
    rw [Option.bind_some]
    have key : ∀ (p1 p2 p3 p4 p5 p6 : Prop) [Decidable p1] [Decidable p2] [Decidable p3] [Decidable p4] [Decidable p5] [Decidable p6],
        (if p1 then some true else (if p2 then some true else (if p3 then some true else (if p4 then some true else (if p5 then some true else (if p6 then some true else some false)))))) = some r →
        (if p1 then x else (if p2 then x else (if p3 then x else (if p4 then x else (if p5 then x else (if p6 then x else some false)))))) = if r = true then x else some false := by
      intro p1 p2 p3 p4 p5 p6 _ _ _ _ _ _ h
      by_cases h1 : p1
      · rw [if_pos h1] at h ⊢; obtain rfl := Option.some.inj h; rfl
      rw [if_neg h1] at h ⊢
      by_cases h2 : p2
      · rw [if_pos h2] at h ⊢; obtain rfl := Option.some.inj h; rfl
      rw [if_neg h2] at h ⊢
      by_cases h3 : p3
      · rw [if_pos h3] at h ⊢; obtain rfl := Option.some.inj h; rfl
      rw [if_neg h3] at h ⊢
      by_cases h4 : p4
      · rw [if_pos h4] at h ⊢; obtain rfl := Option.some.inj h; rfl
      rw [if_neg h4] at h ⊢
      by_cases h5 : p5
      · rw [if_pos h5] at h ⊢; obtain rfl := Option.some.inj h; rfl
      rw [if_neg h5] at h ⊢
      by_cases h6 : p6
      · rw [if_pos h6] at h ⊢; obtain rfl := Option.some.inj h; rfl
      rw [if_neg h6] at h ⊢
      obtain rfl := Option.some.inj h; rfl
    exact key _ _ _ _ _ _ h

theorem nameOk_loop (s : ByteArray) (hs : s.size ≤ 27) : ∀ (d i : Nat), i + d = s.size → Ev (fun k => HRef.credenzaref2_NameOk.l0 k s (i : Int)) ((s.data.toList.drop i).all Plain.sgn)
  | 0, i, h => by
    have e : s.data.toList.drop i = [] := List.drop_eq_nil_of_le (by rw [← Lib.size_eq]; omega)
    rw [e]
    refine Ev.step (f := fun _ => some true) (fun k => ?_) (Ev.now true)
    simp only [HRef.credenzaref2_NameOk.l0]
    rw [if_neg (by omega)]
  | d + 1, i, h => by
    have hi : i < s.data.toList.length := by rw [← Lib.size_eq]; omega
    rw [List.drop_eq_getElem_cons hi, List.all_cons]
    have ih := nameOk_loop s hs d (i + 1) (by omega)
    have hw : wrap64 ((i : Int) + 1) = ((i + 1 : Nat) : Int) := by unfold wrap64; omega
    refine Ev.step (f := fun k => if Plain.sgn s.data.toList[i] = true then HRef.credenzaref2_NameOk.l0 k s ((i + 1 : Nat) : Int) else some false) (fun k => ?_) ?_
    · simp only [HRef.credenzaref2_NameOk.l0]
      rw [if_pos (by omega), if_pos (by omega), bt_get s i hi, hw]
      exact letter_bind _ _ (letter_step _) _
    · cases hc : Plain.sgn s.data.toList[i] with
      | true => simpa using ih
      | false => simpa using Ev.now false

theorem nameOk_ev (s : ByteArray) : Ev (fun k => HRef.credenzaref2_NameOk.f k s) (Plain.ok s) := by
  have e1 : (s.toList = ([46] : List UInt8)) ↔ s.data.toList = [46] := by rw [Lib.toList_data]
  have e2 : (s.toList == ([46, 46] : List UInt8)) = (s.data.toList == [46, 46]) := by rw [Lib.toList_data]
  have no : ∀ r : Bool, Ev (fun k => HRef.credenzaref2_NameOk.j0 k s true) false := fun _ => Ev.step (f := fun _ => some false) (fun k => by simp only [HRef.credenzaref2_NameOk.j0]; rw [if_pos trivial]) (Ev.now false)
  unfold HRef.credenzaref2_NameOk.f Plain.ok Plain.okL
  rw [← Lib.size_eq]
  by_cases h1 : (s.size : Int) < 1
  · have : decide (1 ≤ s.size) = false := decide_eq_false (by omega)
    rw [this]
    simp only [Bool.false_and]
    exact Ev.congr (fun k => by rw [if_pos h1]) (no true)
  have d1 : decide (1 ≤ s.size) = true := decide_eq_true (by omega)
  by_cases h2 : (s.size : Int) > 27
  · have : decide (s.size ≤ 27) = false := decide_eq_false (by omega)
    rw [this]
    simp only [Bool.and_false, Bool.false_and]
    exact Ev.congr (fun k => by rw [if_neg h1, if_pos h2]) (no true)
  have d2 : decide (s.size ≤ 27) = true := decide_eq_true (by omega)
  rw [d1, d2]
  by_cases h3 : s.data.toList = [46]
  · have : (s.data.toList == [46]) = true := by rw [h3]; decide
    rw [this]
    simp only [Bool.not_true, Bool.and_false, Bool.false_and]
    exact Ev.congr (fun k => by rw [if_neg h1, if_neg h2, if_pos (e1.2 h3)]) (no true)
  have d3 : (s.data.toList == [46]) = false := by simpa using h3
  rw [d3]
  by_cases h4 : (s.data.toList == [46, 46]) = true
  · rw [h4]
    simp only [Bool.not_true, Bool.and_false, Bool.false_and]
    exact Ev.congr (fun k => by rw [if_neg h1, if_neg h2, if_neg (fun h => h3 (e1.1 h)), e2, h4]) (no true)
  have d4 : (s.data.toList == [46, 46]) = false := by simpa using h4
  rw [d4]
  simp only [Bool.not_false, Bool.and_true, Bool.true_and]
  have hl := nameOk_loop s (by omega) s.size 0 (by omega)
  rw [List.drop_zero] at hl
  refine Ev.congr (f := fun k => HRef.credenzaref2_NameOk.j0 k s false) (fun k => ?_) (Ev.step (f := fun k => HRef.credenzaref2_NameOk.l0 k s 0) (fun k => ?_) hl)
  · rw [if_neg h1, if_neg h2, if_neg (fun h => h3 (e1.1 h)), e2, d4]
  · simp only [HRef.credenzaref2_NameOk.j0]
    rw [if_neg (by decide)]

/-! ### Split -/
def addPre (w : List UInt8) : List (List UInt8) → List (List UInt8)
  | [] => []
  | p :: ps => (w ++ p) :: ps
def fin (out : List ByteArray) (ps : List (List UInt8)) : List ByteArray × Bool :=
  if ps.all Plain.okL = true ∧ out.length + ps.length ≤ 6 then (out ++ ps.map Plain.bs, true) else ([], false)

theorem addPre_head (w p : List UInt8) (c : UInt8) (ps : List (List UInt8)) : addPre w (Plain.addHead c (p :: ps)) = addPre (w ++ [c]) (p :: ps) := by simp [addPre, Plain.addHead]

theorem split_loop (s : ByteArray) (hs : s.size ≤ 1000) : ∀ (rest : List UInt8) (i : Nat) (out : List ByteArray) (w : List UInt8), s.data.toList.drop i = rest → i ≤ s.size → out.length ≤ 6 → w.length ≤ i →
    Ev (fun k => HRef.credenzaref2_Split.l0 k s out (Plain.bs w) (i : Int)) (fin out (addPre w (Plain.pieces rest)))
  | [], i, out, w, hd, hi, ho, hw => by
    have hi' : i = s.size := by
      have : s.data.toList.length ≤ i := by
        rcases Nat.lt_or_ge i s.data.toList.length with h | h
        · rw [List.drop_eq_getElem_cons h] at hd; cases hd
        · exact h
      rw [← Lib.size_eq] at this; omega
    have hwr : wrap64 ((i : Int) + 1) = ((i + 1 : Nat) : Int) := by unfold wrap64; omega
    refine Ev.step (f := fun k => HRef.credenzaref2_Split.j2 k s out (Plain.bs w) (i : Int) false) (fun k => ?_) ?_
    · simp only [HRef.credenzaref2_Split.l0]
      rw [if_pos (by omega), if_neg (by omega)]
    refine Ev.step (f := fun k => (HRef.credenzaref2_NameOk.f k (Plain.bs w)).bind fun t102 => (if t102 = true then (if (out.length : Int) = 6 then (some (([] : List ByteArray), false)) else (if out.length < 8796093022208 then (HRef.credenzaref2_Split.l0 k s (out ++ [Plain.bs w]) (⟨#[]⟩ : ByteArray) (wrap64 ((i : Int) + 1))) else (none))) else (some (([] : List ByteArray), false)))) (fun k => ?_) ?_
    · simp only [HRef.credenzaref2_Split.j2]
      rw [if_neg (by decide)]
    refine Ev.bind (nameOk_ev (Plain.bs w)) ?_
    have e : addPre w (Plain.pieces []) = [w] := by simp [Plain.pieces, addPre]
    rw [e]
    unfold fin
    have ho' : Plain.ok (Plain.bs w) = Plain.okL w := rfl
    rw [ho']
    cases hk : Plain.okL w with
    | false => 
      rw [if_neg (by simp [hk])]
      simpa using Ev.now _
    | true =>
      by_cases h6 : out.length = 6
      · rw [if_neg (by simp; omega)]
        exact Ev.congr (fun k => by rw [if_pos rfl, if_pos (by omega)]) (Ev.now _)
      · rw [if_pos (by simp [hk]; omega)]
        refine Ev.congr (f := fun k => HRef.credenzaref2_Split.l0 k s (out ++ [Plain.bs w]) (⟨#[]⟩ : ByteArray) ((i + 1 : Nat) : Int)) (fun k => by rw [if_pos rfl, if_neg (by omega), if_pos (by omega), hwr]) ?_
        refine Ev.step (f := fun _ => some (out ++ [Plain.bs w], true)) (fun k => ?_) (Ev.now _)
        simp only [HRef.credenzaref2_Split.l0]
        rw [if_neg (by omega)]
  | c :: t, i, out, w, hd, hi, ho, hw => by
    have hlt : i < s.data.toList.length := by
      rcases Nat.lt_or_ge i s.data.toList.length with h | h
      · exact h
      · rw [List.drop_eq_nil_of_le h] at hd; cases hd
    have hlt' : i < s.size := by rw [Lib.size_eq]; exact hlt
    rw [List.drop_eq_getElem_cons hlt] at hd
    obtain ⟨hc, ht⟩ := List.cons.inj hd
    have hwr : wrap64 ((i : Int) + 1) = ((i + 1 : Nat) : Int) := by unfold wrap64; omega
    have hb : bt s (i : Int) = (c.toNat : Int) := by rw [bt_get s i hlt, hc]
    refine Ev.step (f := fun k => HRef.credenzaref2_Split.j2 k s out (Plain.bs w) (i : Int) ((c.toNat : Int) != 47)) (fun k => ?_) ?_
    · simp only [HRef.credenzaref2_Split.l0]
      rw [if_pos (by omega), if_pos (by omega), if_pos (by omega), hb]
    by_cases h47 : c = 47
    · subst h47
      rw [Plain.pieces_slash]
      have e : addPre w ([] :: Plain.pieces t) = w :: Plain.pieces t := by simp [addPre]
      rw [e]
      refine Ev.step (f := fun k => (HRef.credenzaref2_NameOk.f k (Plain.bs w)).bind fun t102 => (if t102 = true then (if (out.length : Int) = 6 then (some (([] : List ByteArray), false)) else (if out.length < 8796093022208 then (HRef.credenzaref2_Split.l0 k s (out ++ [Plain.bs w]) (⟨#[]⟩ : ByteArray) (wrap64 ((i : Int) + 1))) else (none))) else (some (([] : List ByteArray), false)))) (fun k => ?_) ?_
      · simp only [HRef.credenzaref2_Split.j2]
        rw [if_neg (by decide)]
      refine Ev.bind (nameOk_ev (Plain.bs w)) ?_
      have ho' : Plain.ok (Plain.bs w) = Plain.okL w := rfl
      rw [ho']
      obtain ⟨p, ps, hp⟩ := Plain.pieces_ne t
      cases hk : Plain.okL w with
      | false =>
        unfold fin
        rw [if_neg (by simp [hk])]
        simpa using Ev.now _
      | true =>
        by_cases h6 : out.length = 6
        · unfold fin
          rw [if_neg (by simp; omega)]
          exact Ev.congr (fun k => by rw [if_pos rfl, if_pos (by omega)]) (Ev.now _)
        · refine Ev.congr (f := fun k => HRef.credenzaref2_Split.l0 k s (out ++ [Plain.bs w]) (Plain.bs []) ((i + 1 : Nat) : Int)) (fun k => by rw [if_pos rfl, if_neg (by omega), if_pos (by omega), hwr]; rfl) ?_
          have ih := split_loop s hs t (i + 1) (out ++ [Plain.bs w]) [] ht (by omega) (by simp; omega) (by simp)
          have e2 : fin (out ++ [Plain.bs w]) (addPre [] (Plain.pieces t)) = fin out (w :: Plain.pieces t) := by
            rw [hp]
            simp [fin, addPre, hk, Nat.add_assoc, Nat.add_comm]
          rw [e2] at ih
          exact ih
    · rw [Plain.pieces_other t h47]
      obtain ⟨p, ps, hp⟩ := Plain.pieces_ne t
      have ih := split_loop s hs t (i + 1) out (w ++ [c]) ht (by omega) ho (by simp; omega)
      rw [hp] at ih ⊢
      rw [addPre_head]
      have hne : ((c.toNat : Int) != 47) = true := by
        rw [bne_iff_ne]
        intro h
        exact h47 (UInt8.toNat_inj.1 (by have : (47 : UInt8).toNat = 47 := rfl; omega))
      rw [hne]
      refine Ev.step (f := fun k => HRef.credenzaref2_Split.l0 k s out (Plain.bs (w ++ [c])) ((i + 1 : Nat) : Int)) (fun k => ?_) ih
      have hx : s.extract i (i + 1) = Plain.bs [c] := by
        apply ByteArray.ext
        apply Array.ext'
        have : (s.extract i (i + 1)).data.toList = [c] := by
          rw [Lib.extract_data]
          have : i + 1 - i = 1 := by omega
          rw [this, List.drop_eq_getElem_cons hlt, hc]; rfl
        exact this
      simp only [HRef.credenzaref2_Split.j2]
      rw [if_pos trivial, hwr, if_pos (by omega), if_pos (by omega), if_pos (by omega), Int.toNat_natCast, Int.toNat_natCast, hx]
      have hsz : (Plain.bs w).size + (Plain.bs [c]).size ≤ 9223372036854775807 := by
        have : (Plain.bs w).size = w.length := Lib.size_eq _
        have h1 : (Plain.bs [c]).size = 1 := rfl
        omega
      rw [if_pos hsz]
      congr 1

theorem split_ev (s : ByteArray) : ∃ r, name_Split.f s = some r ∧ Ev (fun k => HRef.credenzaref2_Split.f k s) r := by
  have e1 : (s.toList = ([47] : List UInt8)) ↔ s.data.toList = [47] := by rw [Lib.toList_data]
  have e2 : (s.toList = ([] : List UInt8)) ↔ s.data.toList = [] := by rw [Lib.toList_data]
  have hsz := Lib.size_eq s
  have no : Ev (fun k => HRef.credenzaref2_Split.j0 k s true) (([] : List ByteArray), false) := Ev.step (f := fun _ => some (([] : List ByteArray), false)) (fun k => by simp only [HRef.credenzaref2_Split.j0]; rw [if_pos trivial]) (Ev.now _)
  unfold HRef.credenzaref2_Split.f name_Split.f
  by_cases h0 : s.data.toList = [47]
  · refine ⟨_, rfl, ?_⟩
    have e : Plain.splitP s.data.toList = some [] := by rw [h0]; rfl
    rw [e]
    exact Ev.congr (fun k => by rw [if_pos (e1.2 h0)]; rfl) (Ev.now _)
  cases hd : s.data.toList with
  | nil =>
    refine ⟨_, rfl, ?_⟩
    exact Ev.congr (fun k => by rw [if_neg (fun h => h0 (e1.1 h)), if_pos (e2.2 hd)]) no
  | cons c t =>
    have h1 : ¬ s.data.toList = [] := by rw [hd]; simp
    have hpos : 0 < s.data.toList.length := by rw [hd]; simp
    have hb : bt s 0 = (c.toNat : Int) := by
      have := bt_get s 0 hpos
      simp only [hd, List.getElem_cons_zero] at this
      exact this
    by_cases hc : c = 47
    · subst hc
      by_cases hl : (s.size : Int) > 1000
      · refine ⟨_, rfl, ?_⟩
        rw [Plain.split_long _ (by rw [← hd, ← hsz]; omega)]
        exact Ev.congr (fun k => by rw [if_neg (fun h => h0 (e1.1 h)), if_neg (fun h => h1 (e2.1 h)), if_pos (by omega), hb, if_pos (by decide), decide_eq_true hl]) no
      · refine ⟨_, rfl, ?_⟩
        have ht : t ≠ [] := fun e => h0 (by rw [hd, e])
        have e : Plain.splitP (47 :: t) = if Plain.good (Plain.pieces t) = true then some (Plain.pieces t) else none := by
          show (if (47 : UInt8) = 47 then (if t = [] then some [] else if Plain.good (Plain.pieces t) = true then some (Plain.pieces t) else none) else none) = _
          rw [if_pos rfl, if_neg ht]
        have hloop := split_loop s (by omega) t 1 [] [] (by rw [hd]; rfl) (by omega) (by simp) (by simp)
        have e3 : fin [] (addPre [] (Plain.pieces t)) = (match Plain.splitP (47 :: t) with | some ps => (ps.map Plain.bs, true) | none => ([], false)) := by
          rw [e]
          obtain ⟨p, ps, hp⟩ := Plain.pieces_ne t
          have ea : addPre [] (Plain.pieces t) = Plain.pieces t := by rw [hp]; simp [addPre]
          rw [ea]
          unfold fin Plain.good
          by_cases hg : (Plain.pieces t).all Plain.okL = true ∧ ([] : List ByteArray).length + (Plain.pieces t).length ≤ 6
          · rw [if_pos hg, if_pos (by rw [Bool.and_eq_true]; exact ⟨decide_eq_true (by simpa using hg.2), hg.1⟩)]
            simp
          · rw [if_neg hg, if_neg (by rw [Bool.and_eq_true, decide_eq_true_eq]; exact fun h => hg ⟨h.2, by simpa using h.1⟩)]
        rw [e3] at hloop
        refine Ev.congr (f := fun k => HRef.credenzaref2_Split.j0 k s false) (fun k => ?_) (Ev.step (f := fun k => HRef.credenzaref2_Split.l0 k s [] (Plain.bs []) ((1 : Nat) : Int)) (fun k => ?_) hloop)
        · rw [if_neg (fun h => h0 (e1.1 h)), if_neg (fun h => h1 (e2.1 h)), if_pos (by omega), hb, if_pos (by decide), decide_eq_false hl]
        · simp only [HRef.credenzaref2_Split.j0]
          rw [if_neg (by decide)]
          rfl
    · refine ⟨_, rfl, ?_⟩
      have e : Plain.splitP (c :: t) = none := by
        show (if c = 47 then (if t = [] then some [] else if Plain.good (Plain.pieces t) = true then some (Plain.pieces t) else none) else none) = _
        rw [if_neg hc]
      rw [e]
      have hne : ¬ ((c.toNat : Int) = 47) := fun h => hc (UInt8.toNat_inj.1 (by have : (47 : UInt8).toNat = 47 := rfl; omega))
      exact Ev.congr (fun k => by rw [if_neg (fun h => h0 (e1.1 h)), if_neg (fun h => h1 (e2.1 h)), if_pos (by omega), hb, if_neg hne]) no

end Go.Proofs.YtpalgkfilpkgeaaDoor.Ref

/- slices.SortFunc at this translation, in the form that the printed texts take. Condition: as GivenC's. -/
import Derived.Test.YticjkhkmbinmgaaGivenC
import Derived.Shelf.SlSortCmp.NoneTotal
namespace Go.Proofs.Yticjkhkmbinmgaa.GivenD
set_option linter.unusedSimpArgs false
open Go.RowKit Go.Proofs.YticjkhkmbinmgaaW.PrintWords Go.Proofs.YticjkhkmbinmgaaW.PrintLast Go.Proofs.YticjkhkmbinmgaaW.PrintMore
open Go.Proofs.Yticjkhkmbinmgaa.QClean (S25 z25 k25 k25_open k25_mkM k25_mk) 
open Go.Proofs.Yticjkhkmbinmgaa.GivenA Go.Proofs.Yticjkhkmbinmgaa.GivenB Go.Proofs.Yticjkhkmbinmgaa.GivenC
open Go.Sort (SWO PermIn SortedIn HoldsK flatK grow ahead putRowK Holds get_flatK size_flatK putRow mapBlock putCells onCells)

theorem heap_sorted (w : World) (g m : Nat) (d : Array T) (os : Array Obj) (k : Nat) (hk : k < w.heap.size) :
    (sortWorldK encT 2 w g 0 m d os).heap[k]? = if k = g then (w.heap[k]?).map (onCells (putCells id 0 (flatK encT 2 d))) else w.heap[k]? := by
  show (w.heap.modify g (onCells (putCells id 0 (flatK encT 2 d))) ++ os)[k]? = _
  rw [Array.getElem?_append_left (by simpa using hk), Array.getElem?_modify]
  by_cases e : k = g
  · rw [if_pos e, if_pos e.symm]
  · rw [if_neg e, if_neg (Ne.symm e)]
theorem size_sorted (w : World) (g m : Nat) (d : Array T) (os : Array Obj) : w.heap.size ≤ (sortWorldK encT 2 w g 0 m d os).heap.size := by
  show _ ≤ (w.heap.modify g (onCells (putCells id 0 (flatK encT 2 d))) ++ os).size
  simp

theorem flat_of (l : List S25) (d : Array T) (hd : d.toList.map (·.1) = l) (cur : Array Value) (hcur : l.length * 2 ≤ cur.size) :
    (putCells id 0 (flatK encT 2 d) cur).toList.take (l.length * 2) = flat l := by
  have hdl : d.size = l.length := by rw [← hd]; simp
  have hsz : (putCells id 0 (flatK encT 2 d) cur).size = cur.size := by simp [putCells]
  refine List.ext_getElem ?_ fun t h1 h2 => ?_
  · have e0 : (putCells id 0 (flatK encT 2 d) cur).toList.length = cur.size := by rw [← hsz]; exact Array.length_toList
    rw [List.length_take, e0, flat_length]; omega
  · rw [flat_length] at h2
    rw [List.getElem_take, Array.getElem_toList]
    obtain ⟨x, hx, hu⟩ := flat_get l t _ (List.getElem?_eq_getElem (by rw [flat_length]; exact h2))
    have e1 : (putCells id 0 (flatK encT 2 d) cur)[t]'(by rw [hsz]; omega) = (flatK encT 2 d)[t]! := by
      simp only [putCells, Array.getElem_mapIdx, size_flatK]
      rw [if_pos ⟨Nat.zero_le _, by omega⟩]
      rfl
    rw [e1, get_flatK _ _ _ _ (by omega)]
    have hlt : t / 2 < d.size := by omega
    have ex : (d[t / 2]!).1 = x := by
      rw [getElem!_pos d _ hlt]
      rw [← hd, List.getElem?_map, Array.getElem?_toList, Array.getElem?_eq_getElem hlt] at hx
      exact Option.some.inj hx
    show (encS (d[t / 2]!).1)[t % 2]! = _
    rw [ex]
    have hlen : t % 2 < (encS x).length := by show t % 2 < 2; omega
    rw [List.getElem?_eq_getElem hlen] at hu
    rw [getElem!_pos (encS x) (t % 2) hlen]
    exact Option.some.inj hu

def slices_SortR.f (l0 : List S25) : Option (List S25) := if l0.all fit = true then (if l0.length ≤ 1000 then some (sortR l0) else none) else none
set_option maxHeartbeats 1000000 in
theorem slices_SortR.calls (P0_ : Nat → Prop) (u9000_ : Value) (l0 : List S25) (r : List S25) (w0 w : World) (hB : Below w0.heap.size w0 w) (ho0 : Kd.R k25 25 w w0.heap.size P0_ u9000_ l0) (h : slices_SortR.f l0 = some r) :
    Calls Try.prog 25 #[u9000_, .func (.func 26) #[] #[]] w fun e w' => e = .returned (.tuple #[]) ∧ Kd.R k25 25 w' w0.heap.size (fun k_ => (P0_ k_ ∨ w.heap.size ≤ k_)) u9000_ r ∧ Below w0.heap.size w0 w' ∧ Kept w w' (fun k_ => P0_ k_) := by
  unfold slices_SortR.f at h
  by_cases hf : l0.all fit = true
  · rw [if_pos hf] at h
    by_cases hl : l0.length ≤ 1000
    · rw [if_pos hl] at h
      obtain rfl := Option.some.inj h
      have hfit : ∀ x ∈ l0, fit x = true := List.all_eq_true.1 hf
      have hown := flat_of_R ho0
      have hP := ho0.1
      obtain ⟨hlen, hcase⟩ := hown
      rcases hcase with ⟨rfl, hz⟩ | ⟨g, cap, cur, rfl, hg, hcell, hcap, hmax, hcs, htake⟩
      · have e : l0 = [] := List.length_eq_zero_iff.1 hz
        subst e
        have hcon := AnyF.slices_SortFunc_none Try.laysF6 none 0 (.func (.func 26) #[] #[]) w
        change Calls Try.prog 25 _ _ _ at hcon
        refine hcon.mono fun e w' ⟨he, hw⟩ => ⟨he, ?_, ?_, ?_⟩
        · have : sortR [] = [] := List.length_eq_zero_iff.1 (sort_length [] hfit)
          rw [this]; exact Kd.R_nil _ _ _ _ _
        · rw [hw]; exact hB
        · rw [hw]; exact Kept.refl _ _
      · have hglt : g < w.heap.size := by
          rcases Nat.lt_or_ge g w.heap.size with h | h
          · exact h
          · rw [Array.getElem?_eq_none h] at hcell; cases hcell
        have hds : (toT l0 hfit).toArray.size = l0.length := by rw [List.size_toArray, toT_length]
        have hcells : ∀ t, t < l0.length * 2 → cur[t]? = (flat l0)[t]? := fun t ht => by
          rw [← htake, List.getElem?_take, if_pos ht, Array.getElem?_toList]
        have hH : HoldsK encT 2 w g 0 (toT l0 hfit).toArray := by
          intro t ht
          rw [size_flatK, hds] at ht
          refine ⟨?_, ?_⟩
          · rw [get_flatK _ _ _ _ (by rw [hds]; exact ht), Nat.zero_add]
            have hc : w.cell? ⟨g, t, none⟩ = cur[t]? := by
              unfold World.cell?
              rw [hcell]; rfl
            rw [hc, hcells t ht]
            have hlt2 : t < (flat l0).length := by rw [flat_length]; exact ht
            obtain ⟨x, hx, hu⟩ := flat_get l0 t _ (List.getElem?_eq_getElem hlt2)
            have hlt : t / 2 < (toT l0 hfit).toArray.size := by rw [hds]; omega
            have ex : ((toT l0 hfit).toArray[t / 2]!).1 = x := by
              rw [getElem!_pos (toT l0 hfit).toArray (t / 2) hlt]
              have h3 : ((toT l0 hfit).map (·.1))[t / 2]? = some x := by rw [toT_val]; exact hx
              rw [List.getElem?_map, List.getElem?_eq_getElem (by rw [toT_length]; omega)] at h3
              simpa using h3
            show _ = some (encS ((toT l0 hfit).toArray[t / 2]!).1)[t % 2]!
            rw [ex, List.getElem?_eq_getElem hlt2]
            have hlen2 : t % 2 < (encS x).length := by show t % 2 < 2; omega
            rw [List.getElem?_eq_getElem hlen2] at hu
            rw [getElem!_pos (encS x) (t % 2) hlen2]
            exact hu.symm
          · exact blk_frozen hcell _
        have hcon := AnyQ.slices_SortFunc_eq Try.laysF6 2 Try.isAgg25 Try.sizeOf25 encT (fun _ => rfl) (fun x v hv => by simp [encT, encS] at hv; rcases hv with rfl | rfl <;> rfl) cf swo 26 #[] g 0 cap (toT l0 hfit).toArray w eg26 (cmpLays26 g 0 _ w) hH hglt (by rw [hds]; omega)
        change Calls Try.prog 25 _ _ _ at hcon
        rw [hds] at hcon
        refine hcon.mono ?_
        rintro e w' ⟨he, m, os, hw⟩
        have hsr : (srt (toT l0 hfit).toArray).toList.map (·.1) = sortR l0 := by unfold sortR; rw [dif_pos hfit]
        have hsl : (sortR l0).length = l0.length := sort_length l0 hfit
        have hw' : w' = sortWorldK encT 2 w g 0 m (srt (toT l0 hfit).toArray) os := by
          rw [hw]; unfold srt; rw [hds]
        clear hw hcon
        have hblk : ∀ k, k < w.heap.size → k ≠ g → w'.heap[k]? = w.heap[k]? := fun k hk hne => by
          rw [hw', heap_sorted _ _ _ _ _ _ hk, if_neg hne]
        have hgat : w'.heap[g]? = some (.cells (putCells id 0 (flatK encT 2 (srt (toT l0 hfit).toArray)) cur) 25 (0, 0)) := by
          rw [hw', heap_sorted _ _ _ _ _ _ hglt, if_pos rfl, hcell]; rfl
        have hsize : w.heap.size ≤ w'.heap.size := by rw [hw']; exact size_sorted _ _ _ _ _
        refine ⟨he, ?_, ?_, ?_⟩
        · rw [← hsl]
          refine R_of_flat ⟨flat_length _, .inr ⟨g, cap, _, rfl, hg, hgat, by omega, hmax, by simpa [putCells] using hcs, ?_⟩⟩ (fun k hk => .inl (hP k (by rw [← hk]; rfl)))
          exact flat_of (sortR l0) _ hsr cur (by rw [hcs]; omega)
        · refine hB.trans ⟨by rw [hw']; rfl, by rw [hw']; rfl, by rw [hw']; rfl, hsize, fun k hk => ?_⟩
          exact hblk k (Nat.lt_of_lt_of_le hk hB.size) (by omega)
        · exact ⟨hsize, fun i hi hn => hblk i hi (fun e => hn (by rw [e]; exact hP g rfl))⟩
    · rw [if_neg hl] at h; cases h
  · rw [if_neg hf] at h; cases h

end Go.Proofs.Yticjkhkmbinmgaa.GivenD

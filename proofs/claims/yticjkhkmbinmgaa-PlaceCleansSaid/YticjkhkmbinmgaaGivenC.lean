/- slices.SortFunc at this translation and at Clean's closure: the row holds the ranges sorted by where they begin. Condition: no bound of a range is below 0 or above 2^30 (else the difference that the closure takes may be no order). -/
import Derived.Test.YticjkhkmbinmgaaGivenB
namespace Go.Proofs.Yticjkhkmbinmgaa.GivenC
set_option linter.unusedSimpArgs false
open Go.RowKit Go.Proofs.YticjkhkmbinmgaaW.PrintWords Go.Proofs.YticjkhkmbinmgaaW.PrintLast Go.Proofs.YticjkhkmbinmgaaW.PrintMore
open Go.Proofs.Yticjkhkmbinmgaa.QClean (S25 z25 k25 k25_open k25_mkM k25_mk) 
open Go.Proofs.Yticjkhkmbinmgaa.GivenA Go.Proofs.Yticjkhkmbinmgaa.GivenB
open Go.Sort (SWO PermIn SortedIn HoldsK flatK grow ahead putRowK Holds get_flatK size_flatK)

/-- A range whose beginning may be. -/
def fit (x : S25) : Bool := decide (0 ≤ x.f0) && decide (x.f0 ≤ 1073741824)
abbrev T : Type := { x : S25 // fit x = true }
instance : Inhabited T := ⟨⟨z25, by decide⟩⟩
def encT (x : T) : List Value := encS x.1
def cf (x y : T) : Int := x.1.f0 - y.1.f0
theorem fit_bounds (x : T) : 0 ≤ x.1.f0 ∧ x.1.f0 ≤ 1073741824 := by
  have h := x.2
  simpa [fit] using h
theorem lt_iff (x y : T) : ltOf cf x y = decide (x.1.f0 < y.1.f0) := by
  unfold ltOf cf
  by_cases h : x.1.f0 < y.1.f0
  · rw [decide_eq_true h]; exact decide_eq_true (by omega)
  · rw [decide_eq_false h]; exact decide_eq_false (by omega)
theorem swo : SWO (ltOf cf) where
  irrefl x := by rw [lt_iff]; simp
  trans x y z h1 h2 := by rw [lt_iff] at *; simp at *; omega
  ntrans x y z h1 h2 := by rw [lt_iff] at *; simp at *; omega

set_option maxHeartbeats 1000000 in
theorem closure26 (x y : T) (W : World) : Calls Try.prog 26 #[.agg #[.int .i64 x.1.f0, .int .i64 x.1.f1], .agg #[.int .i64 y.1.f0, .int .i64 y.1.f1]] W fun e w' => e = .returned (.int .i64 (cf x y)) ∧ ∃ q os', w' = grow (W.drewN q) os' := by
  have hx := fit_bounds x
  have hy := fit_bounds y
  have hw : IntKind.i64.wrap (x.1.f0 - y.1.f0) = x.1.f0 - y.1.f0 := by
    rw [IntKind.wrap_i64]; omega
  unfold cf
  generalize x.1.f0 = a at *
  generalize y.1.f0 = b at *
  go_enter Try.func26, Try.ntmps26
  go_wp2
  go_ret
  exact ⟨rfl, 0, _, by rw [Go.Sort.alloc_eq_grow, Go.Sort.alloc_eq_grow, Go.Sort.grow_grow]; rfl⟩

theorem cmpLays26 (blk off size : Nat) (w : World) : CmpLays Try.prog 26 #[] encT 2 cf blk off size w :=
  fun _ _ _ _ x y => closure26 x y _
theorem eg26 : ∀ args w, (callFunc 26 args).run Try.prog w = .ok (.enter 26 args) w := enters_of Try.func26 (by kernel_rfl) rfl

def toT (l : List S25) (h : ∀ x ∈ l, fit x = true) : List T := l.attach.map fun x => ⟨x.1, h x.1 x.2⟩
theorem toT_val (l : List S25) (h : ∀ x ∈ l, fit x = true) : (toT l h).map (·.1) = l := by
  unfold toT
  rw [List.map_map]
  exact List.attach_map_subtype_val l
theorem toT_length (l : List S25) (h : ∀ x ∈ l, fit x = true) : (toT l h).length = l.length := by
  unfold toT; simp

def srt (d : Array T) : Array T := Go.Sort.pdq (ltOf cf) d 0 d.size (Lib.bitLen d.size) true true
theorem srt_sorts (d : Array T) : PermIn 0 d.size d (srt d) ∧ SortedIn (ltOf cf) 0 d.size (srt d) :=
  Go.Sort.pdq_sorts (ltOf cf) swo d 0 d.size (Lib.bitLen d.size) true true (Nat.zero_le _) (Nat.le_refl _) (Or.inl rfl)

def sortR (l : List S25) : List S25 := if h : ∀ x ∈ l, fit x = true then (srt (toT l h).toArray).toList.map (·.1) else l
theorem sort_perm (l : List S25) (h : ∀ x ∈ l, fit x = true) : (sortR l).Perm l := by
  unfold sortR
  rw [dif_pos h]
  have hp := (srt_sorts (toT l h).toArray).1
  have h3 := hp.2.2
  have e1 : (srt (toT l h).toArray).extract 0 (toT l h).toArray.size = srt (toT l h).toArray := by
    rw [← hp.1]; exact Array.extract_size
  rw [e1, Array.extract_size] at h3
  have := h3.map (·.1)
  rwa [List.toList_toArray, toT_val] at this
theorem sort_sorted (l : List S25) (h : ∀ x ∈ l, fit x = true) : (sortR l).Pairwise fun x y => x.f0 ≤ y.f0 := by
  unfold sortR
  rw [dif_pos h]
  have hp := srt_sorts (toT l h).toArray
  have hs : (srt (toT l h).toArray).size = (toT l h).toArray.size := hp.1.1
  rw [List.pairwise_map, List.pairwise_iff_getElem]
  intro i j hi hj hij
  have hj' : j < (srt (toT l h).toArray).size := by simpa using hj
  have hi' : i < (srt (toT l h).toArray).size := by omega
  have := hp.2 i j (Nat.zero_le _) hij (by omega)
  rw [lt_iff, getElem!_pos _ j hj', getElem!_pos _ i hi'] at this
  simp at this
  simpa using this
theorem sort_length (l : List S25) (h : ∀ x ∈ l, fit x = true) : (sortR l).length = l.length := (sort_perm l h).length_eq

end Go.Proofs.Yticjkhkmbinmgaa.GivenC

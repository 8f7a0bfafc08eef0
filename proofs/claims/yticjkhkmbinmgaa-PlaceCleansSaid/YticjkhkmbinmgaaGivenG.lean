/- A variable that is an array of bools: told as a row of its own type. For the printed texts' walks; no condition. -/
import Derived.Test.YticjkhkmbinmgaaGivenA
namespace Go.Proofs.Yticjkhkmbinmgaa.GivenG
open Go.RowKit Go.Proofs.YticjkhkmbinmgaaW.PrintWords Go.Proofs.YticjkhkmbinmgaaW.PrintLast Go.Proofs.YticjkhkmbinmgaaW.PrintMore
theorem arr23 : (Try.prog.info? 23).map (fun i => (i.zero, i.size, i.bytes)) = some (some (.agg (Array.replicate 1500 (.bool false))), 1500, 1500) := by kernel_rfl
theorem arr35 : (Try.prog.info? 35).map (fun i => (i.zero, i.size, i.bytes)) = some (some (.agg (Array.replicate 1100 (.bool false))), 1100, 1100) := by kernel_rfl
variable {P : Program} {ops : Array Oper} {rest : List Oper} {o : Oper} {a : Act} {Q : Exit → Act → World → Prop}
theorem R_arr {w0 W : World} (base : Nat) (hgd : o.guard = none) {N : Tmp} (_hd : o.dst = some N) (t n : Nat) (ho : o.op = .alloc t) (hinfo : (P.info? t).map (fun i => (i.zero, i.size, i.bytes)) = some (some (.agg (Array.replicate n (.bool false))), n, n))
    (HB : Below base w0 W) (hbase : base ≤ W.heap.size) (hn : n ≤ 1000000)
    (h : ∀ (g : Nat) (w1 : World), Kd.R Kd.bool t w1 base (fun _ => True) (.slice (some ⟨g, 0, none⟩) n n) (List.replicate n false) → Below base w0 w1 → W.grownBy w1 none → (∃ b, (Value.slice (some ⟨g, 0, none⟩) n n).ownBlock = some b ∧ W.heap.size ≤ b) → wpList P ops Q rest (a.put o.dst (.pointer (some ⟨g, 0, none⟩))) w1) :
    wpList P ops Q (o :: rest) a W := by
  obtain ⟨i0, hi, hzz⟩ := Option.map_eq_some_iff.1 hinfo
  simp only [Prod.mk.injEq] at hzz
  obtain ⟨hz0, hz1, hz2⟩ := hzz
  refine wpList_plain hgd fun K hK => ?_
  have hrun : (execOp a.eval o).run P W = .ok (.value (.pointer (some ⟨W.heap.size, 0, none⟩))) (W.alloc (.cells (Array.replicate n (.bool false)) t)) := by
    unfold execOp
    rw [ho]
    simp [Instr.alloc, newVar, newRow, zeroValue, typeInfo, hi, hz0, Value.cells]
  unfold Oper.wp
  rw [hrun]
  refine hK _ _ (h W.heap.size _ ?_ (HB.alloc hbase _) (World.grownBy_alloc W _ none) ⟨W.heap.size, rfl, Nat.le_refl _⟩)
  have hlen : (List.replicate n false).length = n := List.length_replicate
  refine ⟨fun _ _ => trivial, List.replicate n (Value.bool false), ?_, ?_⟩
  · rw [hlen]
    exact ⟨by simp [Kd.bool, Kd.scalar], .inr ⟨W.heap.size, n, Array.replicate n (.bool false), rfl, hbase, heap_alloc_new _ _, Nat.le_refl _, by unfold maxLen; omega, by simp [Kd.bool, Kd.scalar], by simp [Kd.bool, Kd.scalar]⟩⟩
  · refine ⟨by simp [Kd.bool, Kd.scalar], fun j p hj => ?_⟩
    have hj' : j < n := by
      rcases Nat.lt_or_ge j n with h | h
      · exact h
      · rw [List.getElem?_eq_none (by rw [hlen]; exact h)] at hj; cases hj
    have hp : p = false := by
      rw [List.getElem?_replicate, if_pos hj'] at hj
      exact (Option.some.inj hj).symm
    have e : ((List.replicate n (Value.bool false)).drop (j * 1)).take 1 = [Value.bool false] := by
      rw [Nat.mul_one, List.drop_replicate, List.take_replicate, show min 1 (n - j) = 1 by omega]; rfl
    show Kd.bool.M _ _ _ _ (((List.replicate n (Value.bool false)).drop (j * 1)).take 1)
    rw [e, hp]
    rfl
end Go.Proofs.Yticjkhkmbinmgaa.GivenG

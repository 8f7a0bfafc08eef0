/- PlaceTells: for every list of ranges, size and range the pure form of the law answers true. No condition beyond the row's own. -/
import Derived.Test.YticjkhkmbinmgaaPureD
import Derived.Test.YticjkhkmbinmgaaSTellsx5
namespace Go.Proofs.Yticjkhkmbinmgaa.Pure
open Go.RowKit Go.Proofs.YticjkhkmbinmgaaW.PrintWords Go.Proofs.YticjkhkmbinmgaaW.PrintLast Go.Proofs.YticjkhkmbinmgaaW.PrintMore
open Go.Proofs.Yticjkhkmbinmgaa.QClean Go.Proofs.Yticjkhkmbinmgaa.Canon Go.Proofs.Yticjkhkmbinmgaa.PureA Go.Proofs.Yticjkhkmbinmgaa.PureB Go.Proofs.Yticjkhkmbinmgaa.PureC Go.Proofs.Yticjkhkmbinmgaa.PureD Go.Proofs.Yticjkhkmbinmgaa.RPlace Go.Proofs.Yticjkhkmbinmgaa.STells
open Go.Proofs.Yticjkhkmbinmgaa.GivenA (okR place_Ok.f)

theorem PlaceTells (l : List S25) (a r0 r1 : Int) : ∃ k, credenzalaw18_PlaceTells.f k l a r0 r1 = some true := by
  refine Ev.rounds (g := fun k => credenzalaw18_PlaceTells.f k l a r0 r1) ?_
  unfold credenzalaw18_PlaceTells.f
  have aw : Ev (fun k => (credenzalaw18_awake.f k).bind fun t => some t) true := Ev.bind awake_ev (Ev.now true)
  by_cases h : (l.length : Int) > 100
  · exact Ev.congr (fun k => by rw [if_pos h]) aw
  have hl : l.length ≤ 1000 := by omega
  refine Ev.congr (fun k => by rw [if_neg h]) ?_
  refine Ev.bind (findA_code l a) (Ev.bind (findA_ref l a hl) (Ev.bind (g := fun _ => place_Ok.f l) (a := okR l) (Ev.now _) (Ev.bind (rangesOk_ev l hl) ?_)))
  refine Ev.congr (fun k => by rw [if_pos (by simp)]) ?_
  refine Ev.bind (clean_ev l) (Ev.bind (refClean_ev l hl) (Ev.bind (same_self _ (by have := clean_length l; omega)) ?_))
  refine Ev.congr (fun k => by rw [if_pos rfl, if_pos rfl, if_pos (by simp)]) ?_
  refine Ev.bind (takeA_code l r0 r1) (Ev.bind (takeA_ref l r0 r1 hl) (Ev.bind (same_self _ (takeA_length l r0 r1)) ?_))
  exact Ev.congr (fun k => by rw [if_pos rfl]) aw

end Go.Proofs.Yticjkhkmbinmgaa.Pure

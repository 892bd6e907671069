/- Proved: any command is the bytes, or refused, as the reference says; so is whether it may be, and reads. Condition: none beyond the guard of the statement (texts of more than 1000 bytes are let go). -/
import Derived.Test.YthkipipfdlepnaaPAllx9
import Derived.Test.YthkipipfdlepnaaCmdCore
import Derived.Test.YthkipipfdlepnaaCmdKind
namespace Go.Proofs.Ythkipipfdlepnaa.Pure
open Go.RowKit Go.Proofs.Ythkipipfdlepnaa.PAll Go.Proofs.YthkipipfdlepnaaW.PrintWords Go.Proofs.YthkipipfdlepnaaW.PrintLast Go.Proofs.YthkipipfdlepnaaW.PrintMore
theorem CommandPuts (x : S23) (_ : (Lit.int .i64 x.f0).wf = true ∧ (Lit.int .i64 x.f1).wf = true ∧ (Lit.int .i64 x.f2).wf = true ∧ (Lit.int .i64 x.f3).wf = true ∧ (Lit.int .i64 x.f4).wf = true ∧ x.f5.size ≤ maxLen) : ∃ k, colloquylaw04_CommandPuts.f k x.f0 x.f1 x.f2 x.f3 x.f4 x.f5 = some true := by
  refine Ev.rounds (Ev.bind awake_ev ?_)
  simp only [if_true]
  by_cases g : (x.f5.size : Int) > 1000
  · rw [decide_eq_true g]
    exact Ev.step (f := fun _ => some true) (fun k => by rw [colloquylaw04_CommandPuts.j0, if_pos rfl]) (Ev.now _)
  rw [decide_eq_false g]
  refine Ev.step (fun k => by rw [colloquylaw04_CommandPuts.j0, if_neg (by decide)]) ?_
  refine Ev.bind (cput_ev _ _ _ _ _ _) (Ev.bind (refcput_ev _ _ _ _ _ _) ?_)
  simp only [if_true]
  simp only [may_eq, reads_eq, refreads_eq, Option.bind_some]
  refine Ev.bind (refmay_ev _ _ _ _ _ _) ?_
  simp only [BEq.rfl, if_true]
  exact Ev.now _
end Go.Proofs.Ythkipipfdlepnaa.Pure

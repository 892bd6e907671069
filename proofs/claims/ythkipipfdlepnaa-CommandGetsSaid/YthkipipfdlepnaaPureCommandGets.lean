/- Proved: any bytes are the command, or refused with the error, that the reference says. Condition: none beyond the guard of the statement (more than 2000 bytes are let go). -/
import Derived.Test.YthkipipfdlepnaaPAllx9
import Derived.Test.YthkipipfdlepnaaCmdRefGet
namespace Go.Proofs.Ythkipipfdlepnaa.Pure
open Go.RowKit Go.Proofs.Ythkipipfdlepnaa.PAll Go.Proofs.YthkipipfdlepnaaW.PrintWords Go.Proofs.YthkipipfdlepnaaW.PrintLast Go.Proofs.YthkipipfdlepnaaW.PrintMore
theorem CommandGets : colloquylaw04_CommandGets.Pure := by
  intro l _ hl hb
  have hb := Bs.of hb
  refine Ev.rounds (Ev.bind awake_ev ?_)
  simp only [if_true]
  by_cases g : (l.length : Int) > 2000
  · rw [decide_eq_true g]
    exact Ev.step (f := fun _ => some true) (fun k => by rw [colloquylaw04_CommandGets.j0, if_pos rfl]) (Ev.now _)
  rw [decide_eq_false g]
  have hll : l.length < 1099511627776 := by omega
  refine Ev.step (fun k => by rw [colloquylaw04_CommandGets.j0, if_neg (by decide)]) ?_
  refine Ev.bind (cget_ev hb hll) (Ev.bind (refcget_ev hb hll) ?_)
  simp only [BEq.rfl, Bool.and_self, if_true]
  exact Ev.now _
end Go.Proofs.Ythkipipfdlepnaa.Pure

/- Proved: any bytes begin with the number, or are refused with the error, that the reference says; so are all their numbers. Condition: none beyond the guard of the statement (more than 3000 bytes are let go). -/
import Derived.Test.YtoanigdnkelhhaaRefGetAll
import Derived.Test.YtoanigdnkelhhaaVlqAwake
namespace Go.Proofs.Ytoanigdnkelhhaa.Pure
open Go.RowKit Go.Proofs.Ytoanigdnkelhhaa.PAll Go.Proofs.YtoanigdnkelhhaaW.PrintWords Go.Proofs.YtoanigdnkelhhaaW.PrintLast Go.Proofs.YtoanigdnkelhhaaW.PrintMore
theorem VlqGets : colloquylaw01_VlqGets.Pure := by
  intro l _ hl hb
  have hb := Bs.of hb
  refine Ev.rounds (Ev.bind awake_ev ?_)
  simp only [if_true]
  by_cases h : (l.length : Int) > 3000
  · rw [decide_eq_true h]
    exact Ev.step (f := fun _ => some true) (fun k => by rw [colloquylaw01_VlqGets.j0, if_pos rfl]) (Ev.now _)
  rw [decide_eq_false h]
  have hll : l.length < 1099511627776 := by omega
  have hr := getAllR_len l.length l [] hb (Nat.le_refl _)
  refine Ev.step (fun k => by rw [colloquylaw01_VlqGets.j0, if_neg (by decide)]) ?_
  refine Ev.bind (get_ev hb hll) (Ev.bind (refget_ev hb hll) (Ev.bind (getAll_ev hb hll) (Ev.bind (refgetAll_ev hb hll) (Ev.bind (same_ev ?_) ?_))))
  · have : (getAllOf l).1.length ≤ l.length := by simpa [getAllOf] using hr
    omega
  simp only [if_true, BEq.rfl]
  exact Ev.now _
end Go.Proofs.Ytoanigdnkelhhaa.Pure

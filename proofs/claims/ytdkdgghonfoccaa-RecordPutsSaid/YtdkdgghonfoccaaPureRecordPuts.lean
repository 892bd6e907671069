/- Proved: any record is the bytes, or refused, as the reference says. Condition: none beyond the guard of the statement (more than 1200 bytes are let go). -/
import Derived.Test.YtdkdgghonfoccaaPAllx4
import Derived.Test.YtdkdgghonfoccaaRecCore
namespace Go.Proofs.Ytdkdgghonfoccaa.Pure
open Go.RowKit Go.Proofs.Ytdkdgghonfoccaa.PAll Go.Proofs.YtdkdgghonfoccaaW.PrintWords Go.Proofs.YtdkdgghonfoccaaW.PrintLast Go.Proofs.YtdkdgghonfoccaaW.PrintMore
theorem RecordPuts (x : S24) (h : (Lit.int .i64 x.f0).wf = true ∧ x.f1.length ≤ maxLen ∧ ∀ c ∈ x.f1, (Lit.int .u8 c).wf = true) : ∃ k, colloquylaw03_RecordPuts.f k x.f0 x.f1 = some true := by
  have hb := Bs.of h.2.2
  refine Ev.rounds (Ev.bind awake_ev ?_)
  simp only [if_true]
  by_cases g : (x.f1.length : Int) > 1200
  · rw [decide_eq_true g]
    exact Ev.step (f := fun _ => some true) (fun k => by rw [colloquylaw03_RecordPuts.j0, if_pos rfl]) (Ev.now _)
  rw [decide_eq_false g]
  have hll : x.f1.length < 1099511627776 := by omega
  refine Ev.step (fun k => by rw [colloquylaw03_RecordPuts.j0, if_neg (by decide)]) ?_
  refine Ev.bind (rput_ev hb) (Ev.bind (refrput_ev hb) ?_)
  simp only [if_true, BEq.rfl]
  exact Ev.now _
end Go.Proofs.Ytdkdgghonfoccaa.Pure

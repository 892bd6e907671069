/- Proved: any bytes begin with the record, or are refused with the error, that the reference says; so are all records that they are. Condition: none beyond the guard of the statement (more than 4000 bytes are let go). -/
import Derived.Test.YtdkdgghonfoccaaPAllx9
import Derived.Test.YtdkdgghonfoccaaRecAll
namespace Go.Proofs.Ytdkdgghonfoccaa.Pure
open Go.RowKit Go.Proofs.Ytdkdgghonfoccaa.PAll Go.Proofs.YtdkdgghonfoccaaW.PrintWords Go.Proofs.YtdkdgghonfoccaaW.PrintLast Go.Proofs.YtdkdgghonfoccaaW.PrintMore
theorem RecordGets : colloquylaw03_RecordGets.Pure := by
  intro l _ hl hb
  have hb := Bs.of hb
  refine Ev.rounds (Ev.bind awake_ev ?_)
  simp only [if_true]
  by_cases g : (l.length : Int) > 4000
  · rw [decide_eq_true g]
    exact Ev.step (f := fun _ => some true) (fun k => by rw [colloquylaw03_RecordGets.j0, if_pos rfl]) (Ev.now _)
  rw [decide_eq_false g]
  have hll : l.length < 1099511627776 := by omega
  have hn := ralls_len l.length l [] hb
  rw [List.length_nil] at hn
  refine Ev.step (fun k => by rw [colloquylaw03_RecordGets.j0, if_neg (by decide)]) ?_
  refine Ev.bind (rget_ev hb hll) (Ev.bind (refrget_ev hb hll) (Ev.bind (rall_ev hb hll) (Ev.bind (refrall_ev hb hll) (Ev.bind (rsame_ev (by simp)) (Ev.bind (rsame_ev (by omega)) ?_)))))
  simp only [if_true, BEq.rfl]
  exact Ev.now _
end Go.Proofs.Ytdkdgghonfoccaa.Pure

/- Proved: any number is the bytes, or refused, as the reference says; so is how many bytes it has; so are many. Condition: none beyond the guard of the statement (more than 300 numbers are let go). -/
import Derived.Test.YtoanigdnkelhhaaRefPut
import Derived.Test.YtoanigdnkelhhaaVlqAwake
namespace Go.Proofs.Ytoanigdnkelhhaa.Pure
open Go.RowKit Go.Proofs.Ytoanigdnkelhhaa.PAll Go.Proofs.YtoanigdnkelhhaaW.PrintWords Go.Proofs.YtoanigdnkelhhaaW.PrintLast Go.Proofs.YtoanigdnkelhhaaW.PrintMore
theorem VlqPuts : colloquylaw01_VlqPuts.Pure := by
  intro a l ha _ hl hb
  refine Ev.rounds (Ev.bind awake_ev ?_)
  simp only [if_true]
  by_cases h : (l.length : Int) > 300
  · rw [decide_eq_true h]
    exact Ev.step (f := fun _ => some true) (fun k => by rw [colloquylaw01_VlqPuts.j0, if_pos rfl]) (Ev.now _)
  rw [decide_eq_false h]
  have hll : l.length < 1099511627776 := by omega
  refine Ev.step (fun k => by rw [colloquylaw01_VlqPuts.j0, if_neg (by decide)]) ?_
  refine Ev.bind (put_ev a) (Ev.bind (refput_ev a) (Ev.bind (putAll_ev hll) (Ev.bind (refputAll_ev hll) ?_)))
  simp only [if_true]
  by_cases hk : Ok a
  · obtain ⟨n, rfl⟩ := Int.eq_ofNat_of_zero_le hk.1
    have hn : n < 72057594037927936 := by have := hk.2; omega
    refine Ev.bind (size_ev hn) (Ev.bind (refsize_ev hn) ?_)
    simp only [BEq.rfl]
    exact Ev.now _
  · refine Ev.bind (size_no hk) (Ev.bind (refsize_no hk) ?_)
    simp only [BEq.rfl]
    exact Ev.now _
end Go.Proofs.Ytoanigdnkelhhaa.Pure

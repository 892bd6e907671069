/- Proved: a record that is got is put as just the bytes that it was got from. Condition: none beyond the guard of the statement (more than 4000 bytes are let go). -/
import Derived.Test.YtdkdgghonfoccaaPAllx5
import Derived.Test.YtdkdgghonfoccaaRecGet
namespace Go.Proofs.Ytdkdgghonfoccaa.Pure
open Go.RowKit Go.Proofs.Ytdkdgghonfoccaa.PAll Go.Proofs.YtdkdgghonfoccaaW.PrintWords Go.Proofs.YtdkdgghonfoccaaW.PrintLast Go.Proofs.YtdkdgghonfoccaaW.PrintMore
theorem RecordOnce : colloquylaw03_RecordOnce.Pure := by
  intro l _ hl hb
  have hb := Bs.of hb
  refine Ev.rounds (Ev.bind awake_ev ?_)
  simp only [if_true]
  by_cases g : (l.length : Int) > 4000
  · rw [decide_eq_true g]
    exact Ev.step (f := fun _ => some true) (fun k => by rw [colloquylaw03_RecordOnce.j0, if_pos rfl]) (Ev.now _)
  rw [decide_eq_false g]
  have hll : l.length < 1099511627776 := by omega
  refine Ev.step (fun k => by rw [colloquylaw03_RecordOnce.j0, if_neg (by decide)]) ?_
  refine Ev.bind (rget_ev hb hll) ?_
  by_cases c : (rgetOf l).2.2.2 = 0
  · obtain ⟨a, body, more, h1, h2, h3, h4⟩ := rgetOf_back hb c
    rw [h4]
    simp only [if_true]
    have hbb : Bs body := by
      rw [h3, frame] at hb
      exact hb.left.right.right.right
    refine Ev.bind (rput_ev hbb) ?_
    have e : recOf (a : Int) body = (frame a body, 0) := by
      rw [recOf, if_neg (by omega), if_neg (by omega), Int.toNat_natCast]
    rw [e]
    simp only [if_true, Int.toNat_natCast]
    have hle : (frame a body).length ≤ l.length := by rw [h3, List.length_append]; omega
    refine Ev.congr (fun k => if_pos (by omega)) (Ev.congr (fun k => if_pos (by omega)) ?_)
    rw [h3, List.take_left, BEq.rfl]
    exact Ev.now _
  · rw [rgetOf_err c]
    simp only [if_neg c, if_true]
    exact Ev.now _
end Go.Proofs.Ytdkdgghonfoccaa.Pure

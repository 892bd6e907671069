/- Proved: what is got is put as just the same bytes. Condition: none beyond the guard of the statement (more than 3000 bytes are let go). -/
import Derived.Test.YtoanigdnkelhhaaRefGetAll
import Derived.Test.YtoanigdnkelhhaaVlqAwake
namespace Go.Proofs.Ytoanigdnkelhhaa.Pure
open Go.RowKit Go.Proofs.Ytoanigdnkelhhaa.PAll Go.Proofs.YtoanigdnkelhhaaW.PrintWords Go.Proofs.YtoanigdnkelhhaaW.PrintLast Go.Proofs.YtoanigdnkelhhaaW.PrintMore
theorem VlqOnce : colloquylaw01_VlqOnce.Pure := by
  intro l _ hl hb
  have hb := Bs.of hb
  refine Ev.rounds (Ev.bind awake_ev ?_)
  simp only [if_true]
  by_cases h : (l.length : Int) > 3000
  · rw [decide_eq_true h]
    exact Ev.step (f := fun _ => some true) (fun k => by rw [colloquylaw01_VlqOnce.j0, if_pos rfl]) (Ev.now _)
  rw [decide_eq_false h]
  have hll : l.length < 1099511627776 := by omega
  have hr : (getAllOf l).1.length ≤ l.length := by simpa [getAllOf] using getAllR_len l.length l [] hb (Nat.le_refl _)
  refine Ev.step (fun k => by rw [colloquylaw01_VlqOnce.j0, if_neg (by decide)]) ?_
  refine Ev.bind (getAll_ev hb hll) ?_
  by_cases c : (getAllOf l).2 = 0
  · have e : getAllOf l = ((getAllOf l).1, 0) := by
      have : getAllOf l = ((getAllOf l).1, (getAllOf l).2) := rfl
      rw [c] at this; exact this
    obtain ⟨hok, henc⟩ := getAllOf_back hb e
    simp only [if_pos c]
    refine Ev.bind (putAll_ev (by omega)) ?_
    rw [putAllOf_ok hok, henc]
    simp only [if_true, BEq.rfl]
    exact Ev.now _
  · simp only [if_neg c]
    have e : (getAllOf l).1 = [] := (getAllR_err _ _ _).resolve_left c
    rw [e]
    exact Ev.now _
end Go.Proofs.Ytoanigdnkelhhaa.Pure

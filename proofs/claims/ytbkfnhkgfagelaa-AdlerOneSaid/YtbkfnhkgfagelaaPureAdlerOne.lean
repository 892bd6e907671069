/- Proved: nothing joined to anything, on either side, changes nothing. Condition: none beyond the guard of the statement. -/
import Derived.Test.YtbkfnhkgfagelaaAdlerAux
namespace Go.Proofs.Ytbkfnhkgfagelaa.Pure
open Go.RowKit Go.Proofs.Ytbkfnhkgfagelaa.PAll Go.Proofs.YtbkfnhkgfagelaaW.PrintWords Go.Proofs.YtbkfnhkgfagelaaW.PrintLast

theorem AdlerOne : colloquylaw02_AdlerOne.Pure := by
  intro a n ha hn
  have ha : 0 ≤ a ∧ a < 4294967296 := by
    simp [Lit.wf, IntKind.min, IntKind.max, IntKind.signed, IntKind.bits] at ha; omega
  have out : Ev (fun k => colloquylaw02_AdlerOne.j0 k a n true true) true :=
    Ev.step (f := fun _ => some true) (fun k => by simp only [colloquylaw02_AdlerOne.j0, if_true]) (Ev.now _)
  refine Ev.rounds (Ev.bind awake_ev ?_)
  simp only [if_true]
  refine Ev.bind (may_ev ha.1 ha.2) ?_
  by_cases h : a % 65536 < 65521 ∧ a / 65536 < 65521
  · have e : (decide (a % 65536 < 65521) && decide (a / 65536 < 65521)) = true := by simp [h.1, h.2]
    simp only [e, if_true]
    by_cases h0 : n < 0
    · simp only [if_pos h0]; exact out
    · simp only [if_neg h0]
      by_cases h1 : n > 1073741824
      · rw [decide_eq_true h1]; exact out
      · rw [decide_eq_false h1]
        refine Ev.step (fun k => by simp only [colloquylaw02_AdlerOne.j0]; rw [if_neg (by decide)]) ?_
        refine Ev.bind (join_ev ha.1 ha.2 (by decide) (by decide)) ?_
        have e1 : joined a 1 0 = a := by unfold joined whole; simp; omega
        simp only [if_pos e1]
        refine Ev.bind (join_ev (by decide) (by decide) ha.1 ha.2) ?_
        have e2 : joined 1 a n = a := by unfold joined whole; simp; omega
        rw [e2]
        simp only [BEq.rfl]
        exact Ev.now _
  · have e : (decide (a % 65536 < 65521) && decide (a / 65536 < 65521)) = false := by
      simp; intro h2; omega
    simp only [e]
    exact out
end Go.Proofs.Ytbkfnhkgfagelaa.Pure

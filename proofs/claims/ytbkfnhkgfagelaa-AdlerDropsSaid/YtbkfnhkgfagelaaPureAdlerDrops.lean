/- Proved: the sum of bytes without the first one is told by theirs. Condition: none beyond the guard of the statement. -/
import Derived.Test.YtbkfnhkgfagelaaAdlerAux
namespace Go.Proofs.Ytbkfnhkgfagelaa.Pure
open Go.RowKit Go.Proofs.Ytbkfnhkgfagelaa.PAll Go.Proofs.YtbkfnhkgfagelaaW.PrintWords Go.Proofs.YtbkfnhkgfagelaaW.PrintLast

theorem AdlerDrops : colloquylaw02_AdlerDrops.Pure := by
  intro l _ hl hb
  have hb := u8_bd hb
  have out : Ev (fun k => colloquylaw02_AdlerDrops.j0 k l true true) true :=
    Ev.step (f := fun _ => some true) (fun k => by simp only [colloquylaw02_AdlerDrops.j0, if_true]) (Ev.now _)
  refine Ev.rounds (Ev.bind awake_ev ?_)
  simp only [if_true]
  by_cases h : (l.length : Int) > 6000
  · simp only [if_pos h]; exact out
  · simp only [if_neg h]
    cases l with
    | nil => exact out
    | cons c r =>
      have hl : (c :: r).length < 1099511627776 := by omega
      have hc := hb c (by simp)
      have hr : ∀ x ∈ r, 0 ≤ x ∧ x < 256 := fun x hx => hb x (by simp [hx])
      have e0 : (((c :: r).length : Int) == 0) = false := by rw [beq_eq_false_iff_ne]; simp only [List.length_cons]; omega
      rw [e0]
      refine Ev.step (fun k => by simp only [colloquylaw02_AdlerDrops.j0]; rw [if_neg (by decide)]) ?_
      refine Ev.bind (sum_ev _ hl hb) ?_
      have h1 : (0 : Int) < ((c :: r).length : Int) := by simp only [List.length_cons]; omega
      have h2 : (1 : Int) ≤ ((c :: r).length : Int) := by omega
      simp only [if_pos h1, if_pos h2]
      have e1 : rd (c :: r) 0 = c := rfl
      have e2 : wrap64 (((c :: r).length : Int) - 1) = (r.length : Int) := by
        simp only [List.length_cons] at *; rw [wrap64_id (by omega) (by omega)]; omega
      rw [e1, e2]
      refine Ev.bind (drop_ev (sumOf_bd _).1 (sumOf_bd _).2 hc.1 hc.2) ?_
      rw [dropped_sum c r _ rfl, show (c :: r).drop 1 = r from rfl]
      refine Ev.bind (sum_ev r (by simp only [List.length_cons] at hl; omega) hr) ?_
      simp only [BEq.rfl]
      exact Ev.now _
end Go.Proofs.Ytbkfnhkgfagelaa.Pure

/- Proved: a byte behind others adds its value to the low part, and the low part to the high one. Condition: none beyond the guard of the statement. -/
import Derived.Test.YtbkfnhkgfagelaaAdlerAux
namespace Go.Proofs.Ytbkfnhkgfagelaa.Pure
open Go.RowKit Go.Proofs.Ytbkfnhkgfagelaa.PAll Go.Proofs.YtbkfnhkgfagelaaW.PrintWords Go.Proofs.YtbkfnhkgfagelaaW.PrintLast

theorem AdlerZeros : colloquylaw02_AdlerZeros.Pure := by
  intro l c _ hl hb hc
  have hb := u8_bd hb
  have hc : 0 ≤ c ∧ c < 256 := by
    simp [Lit.wf, IntKind.min, IntKind.max, IntKind.signed, IntKind.bits] at hc; omega
  refine Ev.rounds (Ev.bind awake_ev ?_)
  simp only [if_true]
  by_cases h : (l.length : Int) > 3000
  · rw [decide_eq_true h]
    exact Ev.step (f := fun _ => some true) (fun k => by simp only [colloquylaw02_AdlerZeros.j0, if_true]) (Ev.now _)
  · rw [decide_eq_false h]
    have hl : l.length < 1099511627776 := by omega
    have hb2 : ∀ x ∈ l ++ [c], 0 ≤ x ∧ x < 256 := by
      intro x hx
      rcases List.mem_append.1 hx with hx | hx
      · exact hb x hx
      · rw [List.mem_singleton.1 hx]; exact hc
    have hb1 : ∀ x ∈ [c], 0 ≤ x ∧ x < 256 := fun x hx => by rw [List.mem_singleton.1 hx]; exact hc
    refine Ev.step (fun k => by simp only [colloquylaw02_AdlerZeros.j0]; rw [if_neg (by decide)]) ?_
    refine Ev.bind (sum_ev l hl hb) ?_
    have h1 : ([] : List Int).length + l.length < 140737488355328 := by simp; omega
    have h2 : ([] ++ l : List Int).length < 140737488355328 := by simp; omega
    simp only [if_pos h1, Option.bind_some, if_pos h2]
    rw [List.nil_append]
    refine Ev.bind (sum_ev (l ++ [c]) (by simp; omega) hb2) ?_
    have hs := sumOf_bd l
    have e : sumOf (l ++ [c]) = (((((((Int.tdiv (sumOf l) 65536) % 4294967296) + ((((Int.tmod (sumOf l) 65536) + ((c) % 4294967296)) % 4294967296) % 65521)) % 4294967296) % 65521) * 65536) + ((((Int.tmod (sumOf l) 65536) + ((c) % 4294967296)) % 4294967296) % 65521)) := by
      rw [Int.tmod_eq_emod_of_nonneg hs.1, Int.tdiv_eq_ediv_of_nonneg hs.1]
      unfold sumOf
      rw [whole_lo, whole_hi, wsum_append, List.sum_append, List.length_append]
      simp only [wsum, List.sum_cons, List.sum_nil, List.length_cons, List.length_nil]
      unfold whole
      generalize l.sum = s
      generalize wsum l = t
      omega
    simp only [if_pos e]
    refine Ev.bind (sum_ev [c] (by simp) hb1) ?_
    refine Ev.bind (join_ev (sumOf_bd _).1 (sumOf_bd _).2 (sumOf_bd _).1 (sumOf_bd _).2) ?_
    rw [joined_sums l [c] 1 rfl]
    simp only [BEq.rfl]
    exact Ev.now _
end Go.Proofs.Ytbkfnhkgfagelaa.Pure

/- Proved: the sum of bytes is that of their two parts, joined, wherever they are cut; joins may be made in any order. Condition: none beyond the guard of the statement. -/
import Derived.Test.YtbkfnhkgfagelaaAdlerAux
namespace Go.Proofs.Ytbkfnhkgfagelaa.Pure
open Go.RowKit Go.Proofs.Ytbkfnhkgfagelaa.PAll Go.Proofs.YtbkfnhkgfagelaaW.PrintWords Go.Proofs.YtbkfnhkgfagelaaW.PrintLast

theorem AdlerJoins : colloquylaw02_AdlerJoins.Pure := by
  intro l cut m _ hl hb hcut _ hm hmb
  have hb := u8_bd hb
  have hmb := u8_bd hmb
  have out : Ev (fun k => colloquylaw02_AdlerJoins.j0 k l cut m true true) true :=
    Ev.step (f := fun _ => some true) (fun k => by simp only [colloquylaw02_AdlerJoins.j0, if_true]) (Ev.now _)
  refine Ev.rounds (Ev.bind awake_ev ?_)
  simp only [if_true]
  by_cases h : (l.length : Int) > 3000
  · simp only [if_pos h]; exact out
  simp only [if_neg h]
  by_cases h2 : (m.length : Int) > 3000
  · simp only [if_pos h2]; exact out
  simp only [if_neg h2]
  by_cases h3 : cut < 0
  · simp only [if_pos h3]; exact out
  simp only [if_neg h3]
  by_cases h4 : cut > (l.length : Int)
  · rw [decide_eq_true h4]; exact out
  rw [decide_eq_false h4]
  obtain ⟨c, rfl⟩ := Int.eq_ofNat_of_zero_le (show 0 ≤ cut by omega)
  have hcl : (c : Int) ≤ (l.length : Int) := by omega
  have hc0 : (0 : Int) ≤ (c : Int) := by omega
  have hx : ∀ x ∈ l.take c, 0 ≤ x ∧ x < 256 := fun x hx => hb x (List.mem_of_mem_take hx)
  have hy : ∀ x ∈ l.drop c, 0 ≤ x ∧ x < 256 := fun x hx => hb x (List.mem_of_mem_drop hx)
  have hlm : ∀ x ∈ l ++ m, 0 ≤ x ∧ x < 256 := by
    intro x hx
    rcases List.mem_append.1 hx with hx | hx
    · exact hb x hx
    · exact hmb x hx
  have hll : l.length < 1099511627776 := by omega
  have hml : m.length < 1099511627776 := by omega
  have e1 : wrap64 ((l.length : Int) - (c : Int)) = ((l.drop c).length : Int) := by
    rw [wrap64_id (by omega) (by omega), List.length_drop]; omega
  have e2 : wrap64 (wrap64 ((l.length : Int) - (c : Int)) + (m.length : Int)) = ((l.drop c ++ m).length : Int) := by
    rw [e1, List.length_append, wrap64_id (by rw [List.length_drop]; omega) (by rw [List.length_drop]; omega)]; omega
  refine Ev.step (fun k => by simp only [colloquylaw02_AdlerJoins.j0]; rw [if_neg (by decide), if_pos hc0, if_pos hcl]) ?_
  rw [e2, e1]
  simp only [Int.toNat_natCast]
  refine Ev.bind (sum_ev (l.take c) (by simp; omega) hx) (Ev.bind (sum_ev (l.drop c) (by simp; omega) hy) (Ev.bind (sum_ev m hml hmb) ?_))
  have J := fun (a b : List Int) (n : Int) (hn : n = b.length) => (show Ev (fun k => adler_Join.f k (sumOf a) (sumOf b) n) (sumOf (a ++ b)) from (by rw [← joined_sums a b n hn]; exact join_ev (sumOf_bd a).1 (sumOf_bd a).2 (sumOf_bd b).1 (sumOf_bd b).2))
  refine Ev.bind (J _ _ _ rfl) (Ev.bind (J _ _ _ rfl) (Ev.bind (J _ _ _ rfl) (Ev.bind (J _ _ _ rfl) (Ev.bind (J _ _ _ rfl) (Ev.bind (sum_ev l hll hb) ?_)))))
  simp only [← List.append_assoc, List.take_append_drop, if_true]
  have h5 : ([] : List Int).length + l.length < 140737488355328 := by simp; omega
  have h6 : ([] ++ l : List Int).length + m.length < 140737488355328 := by simp; omega
  simp only [if_pos h5, Option.bind_some, if_pos h6]
  rw [List.nil_append]
  refine Ev.bind (sum_ev (l ++ m) (by simp; omega) hlm) ?_
  simp only [BEq.rfl]
  exact Ev.now _
end Go.Proofs.Ytbkfnhkgfagelaa.Pure

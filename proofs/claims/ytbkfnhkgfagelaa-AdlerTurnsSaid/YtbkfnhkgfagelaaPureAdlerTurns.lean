/- Proved: one byte that is another one, and two different neighbours that change their places, make another sum. Condition: none beyond the guard of the statement. -/
import Derived.Test.YtbkfnhkgfagelaaAdlerAux
namespace Go.Proofs.Ytbkfnhkgfagelaa.Pure
open Go.RowKit Go.Proofs.Ytbkfnhkgfagelaa.PAll Go.Proofs.YtbkfnhkgfagelaaW.PrintWords Go.Proofs.YtbkfnhkgfagelaaW.PrintLast

theorem split_at {l : List Int} {i : Nat} (h : i < l.length) : l = l.take i ++ l.getD i 0 :: l.drop (i + 1) := by
  rw [← drop_cons_getD h 0, List.take_append_drop]
theorem set_at {l : List Int} {i : Nat} (h : i < l.length) (v : Int) : l.set i v = l.take i ++ v :: l.drop (i + 1) := by
  rw [List.set_eq_take_append_cons_drop, if_pos h]
theorem other_byte (a r : List Int) (c x : Int) (hc : 0 ≤ c ∧ c < 256) (hx : 0 ≤ x ∧ x < 256) (h : sumOf (a ++ x :: r) = sumOf (a ++ c :: r)) : x = c := by
  have := (whole_inj h).1
  simp only [List.sum_append, List.sum_cons] at this
  generalize a.sum = s at *
  generalize r.sum = t at *
  omega
theorem swapped (a r : List Int) (p q : Int) (hp : 0 ≤ p ∧ p < 256) (hq : 0 ≤ q ∧ q < 256) (h : sumOf (a ++ q :: p :: r) = sumOf (a ++ p :: q :: r)) : p = q := by
  have := (whole_inj h).2
  simp only [wsum_append, wsum, List.length_append, List.length_cons] at this
  have e1 : (((r.length + 1 : Nat) : Int) + 1) * p = ((r.length : Int) + 1) * p + p := by rw [Int.natCast_add, Int.add_mul]; simp
  have e2 : (((r.length + 1 : Nat) : Int) + 1) * q = ((r.length : Int) + 1) * q + q := by rw [Int.natCast_add, Int.add_mul]; simp
  rw [e1, e2] at this
  clear h e1 e2
  generalize (((r.length + 1 + 1 : Nat) : Int)) * a.sum = u at *
  generalize ((r.length : Int) + 1) * p = v at *
  generalize ((r.length : Int) + 1) * q = w at *
  generalize wsum a = t at *
  generalize wsum r = z at *
  omega
theorem AdlerTurns : colloquylaw02_AdlerTurns.Pure := by
  intro l at_ x _ hl hb hat hx
  have hb := u8_bd hb
  have hx : 0 ≤ x ∧ x < 256 := by
    simp [Lit.wf, IntKind.min, IntKind.max, IntKind.signed, IntKind.bits] at hx; omega
  have out : Ev (fun k => colloquylaw02_AdlerTurns.j0 k l at_ x true true) true :=
    Ev.step (f := fun _ => some true) (fun k => by simp only [colloquylaw02_AdlerTurns.j0, if_true]) (Ev.now _)
  refine Ev.rounds (Ev.bind awake_ev ?_)
  simp only [if_true]
  by_cases h : (l.length : Int) > 6000
  · simp only [if_pos h]; exact out
  simp only [if_neg h]
  by_cases h3 : at_ < 0
  · simp only [if_pos h3]; exact out
  simp only [if_neg h3]
  by_cases h4 : at_ ≥ (l.length : Int)
  · rw [decide_eq_true h4]; exact out
  rw [decide_eq_false h4]
  obtain ⟨c, rfl⟩ := Int.eq_ofNat_of_zero_le (show 0 ≤ at_ by omega)
  have hc : c < l.length := by omega
  have hci : (c : Int) < (l.length : Int) := by omega
  have hc0 : (0 : Int) ≤ (c : Int) := by omega
  have hll : l.length < 1099511627776 := by omega
  have hg := hb (l.getD c 0) (by rw [getD_lt hc]; exact List.getElem_mem hc)
  have h5 : ([] : List Int).length + l.length < 140737488355328 := by simp; omega
  have hci2 : (c : Int) < (([] ++ l : List Int).length : Int) := by simpa using hci
  have setb : ∀ (m : List Int) (i : Nat) (v : Int), (∀ z ∈ m, 0 ≤ z ∧ z < 256) → 0 ≤ v ∧ v < 256 → ∀ z ∈ m.set i v, 0 ≤ z ∧ z < 256 := by
    intro m i v hm hv z hz
    rcases List.mem_or_eq_of_mem_set hz with hz | hz
    · exact hm z hz
    · rw [hz]; exact hv
  -- the last step
  have two : Ev (fun k => colloquylaw02_AdlerTurns.j2 k l (c : Int) true) true :=
    Ev.step (f := fun _ => some true) (fun k => by simp only [colloquylaw02_AdlerTurns.j2, if_true]) (Ev.now _)
  have one : Ev (fun k => colloquylaw02_AdlerTurns.j1 k l (c : Int) false) true := by
    by_cases hz : c = 0
    · subst hz
      exact Ev.step (fun k => by simp only [colloquylaw02_AdlerTurns.j1]; rw [if_neg (by decide), if_pos (by rfl)]) two
    have e1 : wrap64 ((c : Int) - 1) = ((c - 1 : Nat) : Int) := by rw [wrap64_id (by omega) (by omega)]; omega
    have hd : c - 1 < l.length := by omega
    have hdi : ((c - 1 : Nat) : Int) < (l.length : Int) := by omega
    have hd0 : (0 : Int) ≤ ((c - 1 : Nat) : Int) := by omega
    have hdi2 : ((c - 1 : Nat) : Int) < (([] ++ l : List Int).length : Int) := by simpa using hdi
    have hcz : ¬ (c : Int) = 0 := by omega
    have hh := hb (l.getD (c - 1) 0) (by rw [getD_lt hd]; exact List.getElem_mem hd)
    refine Ev.step (fun k => by simp only [colloquylaw02_AdlerTurns.j1]; rw [if_neg (by decide), if_neg hcz, if_pos hc0, if_pos hci, e1, if_pos hd0, if_pos hdi]) ?_
    simp only [rd, Int.toNat_natCast]
    by_cases he : l.getD c 0 = l.getD (c - 1) 0
    · rw [he, BEq.rfl]; exact two
    rw [beq_eq_false_iff_ne.mpr he]
    refine Ev.step (fun k => by simp only [colloquylaw02_AdlerTurns.j2]; rw [if_neg (by decide), if_pos h5, e1]) ?_
    simp only [Option.bind_some, if_pos hd0, if_pos hdi, if_pos hc0, if_pos hci, if_pos hci2, if_pos hdi2, rd, Int.toNat_natCast]
    rw [List.nil_append]
    refine Ev.bind (sum_ev _ (by simp; omega) (setb _ _ _ (setb _ _ _ hb hh) hg)) (Ev.bind (sum_ev l hll hb) ?_)
    have hne : sumOf ((l.set c (l.getD (c - 1) 0)).set (c - 1) (l.getD c 0)) ≠ sumOf l := by
      intro hs
      apply he
      have s1 : l = l.take (c - 1) ++ l.getD (c - 1) 0 :: l.getD c 0 :: l.drop (c + 1) := by
        conv => lhs; rw [split_at hd]
        rw [show c - 1 + 1 = c by omega, drop_cons_getD hc 0]
      generalize l.getD (c - 1) 0 = p at *
      generalize l.getD c 0 = q at *
      have s2 : (l.set c p).set (c - 1) q = l.take (c - 1) ++ q :: p :: l.drop (c + 1) := by
        have hl1 : (l.take (c - 1)).length = c - 1 := by simp; omega
        generalize l.take (c - 1) = a at *
        generalize l.drop (c + 1) = r at *
        subst s1
        rw [List.set_append_right _ _ (by omega), show c - a.length = 1 by omega]
        rw [List.set_append_right _ _ (by omega), show c - 1 - a.length = 0 by omega]
        rfl
      rw [s2] at hs
      conv at hs => rhs; rw [s1]
      exact (swapped _ _ p q hh hg hs).symm
    rw [bne_iff_ne.mpr hne]
    exact Ev.now _
  refine Ev.step (fun k => by simp only [colloquylaw02_AdlerTurns.j0]; rw [if_neg (by decide), if_pos h5]) ?_
  simp only [Option.bind_some, if_pos hc0, if_pos hci2, if_pos hci, rd, Int.toNat_natCast]
  rw [List.nil_append]
  by_cases he : x = l.getD c 0
  · exact Ev.congr (fun k => if_pos he) one
  refine Ev.congr (fun k => if_neg he) ?_
  refine Ev.bind (sum_ev _ (by simp; omega) (setb _ _ _ hb hx)) (Ev.bind (sum_ev l hll hb) ?_)
  have hne : sumOf (l.set c x) ≠ sumOf l := by
    intro hs
    apply he
    rw [set_at hc] at hs
    conv at hs => rhs; rw [split_at hc]
    exact other_byte _ _ _ _ hg hx hs
  rw [beq_eq_false_iff_ne.mpr hne]
  exact one
end Go.Proofs.Ytbkfnhkgfagelaa.Pure

/- Plain laws of layer 1: the reference's get is the program's. -/
import Derived.Test.YthkipipfdlepnaaPAllx6
import Derived.Test.YthkipipfdlepnaaVlqGet
namespace Go.Proofs.Ythkipipfdlepnaa.Pure
open Go.RowKit Go.Proofs.Ythkipipfdlepnaa.PAll Go.Proofs.YthkipipfdlepnaaW.PrintWords Go.Proofs.YthkipipfdlepnaaW.PrintLast Go.Proofs.YthkipipfdlepnaaW.PrintMore
theorem refget_l (b : List Int) (hb : Bs b) (hl : b.length < 1099511627776) : ∀ (d i n : Nat), b.length - i = d → i ≤ b.length → i ≤ 7 → n < 128 ^ i →
    Ev (fun k => colloquyref01_Get.l0 k b (n : Int) (i : Int)) (getR i n (b.drop i)) := by
  intro d
  induction d with
  | zero =>
    intro i n hd hi h7 hn
    have e : i = b.length := by omega
    subst e
    rw [List.drop_length]
    exact Ev.step (f := fun _ => some (0, 0, 3)) (fun k => by rw [colloquyref01_Get.l0, if_pos (by omega), if_pos (by omega)]) (Ev.now _)
  | succ d ih =>
    intro i n hd hi h7 hn
    have hlt : i < b.length := by omega
    have hlt' : (i : Int) < (b.length : Int) := by omega
    have hc := hb.get hlt
    have hp : 128 ^ i ≤ 128 ^ 7 := Nat.pow_le_pow_right (by decide) h7
    have hn7 : n < 562949953421312 := Nat.lt_of_lt_of_le hn hp
    have ew : wrap64 (b.getD i 0) = b.getD i 0 := wrap64_id (by omega) (by omega)
    have e4 := idx_step (Nat.lt_trans hlt hl)
    have hd1 : b.length - (i + 1) = d := by omega
    have hi1 : i + 1 ≤ b.length := by omega
    have w1 : wrap64 ((n : Int) * 128) = (n : Int) * 128 := wrap64_id (by omega) (by omega)
    have w2 : wrap64 ((n : Int) * 128 + b.getD i 0) = (n : Int) * 128 + b.getD i 0 := wrap64_id (by omega) (by omega)
    have w3 : wrap64 ((n : Int) * 128 + b.getD i 0 - 128) = (n : Int) * 128 + b.getD i 0 - 128 := wrap64_id (by omega) (by omega)
    have yes : Ev (fun k => colloquyref01_Get.j1 k b (n : Int) (i : Int) (b.getD i 0) true) (0, 0, 2) :=
      Ev.step (f := fun _ => some (0, 0, 2)) (fun k => by rw [colloquyref01_Get.j1, if_pos rfl]) (Ev.now _)
    have no : (¬ (i = 7 ∧ b.getD i 0 ≥ 128)) → Ev (fun k => colloquyref01_Get.j1 k b (n : Int) (i : Int) (b.getD i 0) false)
        (if b.getD i 0 < 128 then (((n * 128 + (b.getD i 0).toNat : Nat) : Int), ((i + 1 : Nat) : Int), 0) else getR (i + 1) (n * 128 + ((b.getD i 0).toNat - 128)) (b.drop (i + 1))) := by
      intro c2
      by_cases c3 : b.getD i 0 < 128
      · rw [if_pos c3]
        have e : ((n * 128 + (b.getD i 0).toNat : Nat) : Int) = (n : Int) * 128 + b.getD i 0 := by omega
        rw [e]
        exact Ev.step (f := fun _ => some _) (fun k => by rw [colloquyref01_Get.j1, if_neg (by decide), if_pos c3, w1, w2, e4]) (Ev.now _)
      · rw [if_neg c3]
        have e : (n : Int) * 128 + b.getD i 0 - 128 = ((n * 128 + ((b.getD i 0).toNat - 128) : Nat) : Int) := by omega
        have h6 : i ≤ 6 := by
          have : i ≠ 7 := fun z => c2 ⟨z, by omega⟩
          omega
        refine Ev.step (fun k => by rw [colloquyref01_Get.j1, if_neg (by decide), if_neg c3, w1, w2, w3, e4, e]) (ih (i + 1) _ hd1 hi1 (by omega) ?_)
        rw [Nat.pow_succ]
        omega
    rw [drop_cons_getD hlt 0]
    unfold getR
    have lead : ∀ k, colloquyref01_Get.l0 (k + 1) b (n : Int) (i : Int) = colloquyref01_Get.j1 k b (n : Int) (i : Int) (b.getD i 0) (decide (i = 0 ∧ b.getD i 0 = 128) || decide (i = 7 ∧ b.getD i 0 ≥ 128)) := by
      intro k
      rw [colloquyref01_Get.l0, if_pos (by omega), if_neg (by omega), if_pos (Int.natCast_nonneg i), if_pos hlt']
      simp only [rd, Int.toNat_natCast, ew]
      clear yes no w1 w2 w3 e4 hc ew
      generalize b.getD i 0 = c
      by_cases i0 : i = 0
      · subst i0
        by_cases c1 : c = 128
        · rw [if_pos (by rfl), if_pos c1]; simp [c1]
        · rw [if_pos (by rfl), if_neg c1, if_neg (by omega)]; simp [c1]
      · rw [if_neg (by omega)]
        by_cases i7 : i = 7
        · subst i7
          rw [if_pos (by rfl)]; simp
        · rw [if_neg (by omega)]; simp [i0, i7]
    by_cases c1 : i = 0 ∧ b.getD i 0 = 128
    · rw [if_pos c1]
      refine Ev.step lead ?_
      rw [decide_eq_true c1, Bool.true_or]
      exact yes
    rw [if_neg c1]
    by_cases c2 : i = 7 ∧ b.getD i 0 ≥ 128
    · rw [if_pos c2]
      refine Ev.step lead ?_
      rw [decide_eq_true c2, Bool.or_true]
      exact yes
    rw [if_neg c2]
    refine Ev.step lead ?_
    rw [decide_eq_false c1, decide_eq_false c2, Bool.or_false]
    exact no c2
theorem refget_ev {b : List Int} (hb : Bs b) (hl : b.length < 1099511627776) : Ev (fun k => colloquyref01_Get.f k b) (getOf b) := by
  have := refget_l b hb hl b.length 0 0 (by omega) (by omega) (by omega) (by decide)
  simpa [colloquyref01_Get.f, getOf] using this
end Go.Proofs.Ythkipipfdlepnaa.Pure

/- Plain laws of layer 4 (command): which command bytes are, by the reference. -/
import Derived.Test.YthkipipfdlepnaaPAllx8
import Derived.Test.YthkipipfdlepnaaCmdGet
import Derived.Test.YthkipipfdlepnaaRefGet
namespace Go.Proofs.Ythkipipfdlepnaa.Pure
open Go.RowKit Go.Proofs.Ythkipipfdlepnaa.PAll Go.Proofs.YthkipipfdlepnaaW.PrintWords Go.Proofs.YthkipipfdlepnaaW.PrintLast Go.Proofs.YthkipipfdlepnaaW.PrintMore
set_option linter.unusedSimpArgs false
/-- So many numbers off the front. -/
def numsR : Nat → List Int → List Int → List Int × List Int × Int
  | 0, acc, y => (acc, y, 0)
  | m + 1, acc, y => if (numS y 0 true).2.2 = 0 then numsR m (acc ++ [(numS y 0 true).1]) (numS y 0 true).2.1 else ([], [], (numS y 0 true).2.2)
theorem numS_true (y : List Int) : numS y 0 true = ((getOf y).1, y.drop (getOf y).2.1.toNat, (getOf y).2.2) := by unfold numS; rw [if_pos ⟨rfl, rfl⟩]
theorem numbers_l (many : Int) (hm : many ≤ 10) : ∀ (m i : Nat) (acc y : List Int), Bs y → y.length < 1099511627776 → acc.length ≤ i → (i : Int) + (m : Int) = many →
    Ev (fun k => colloquyref04_numbers.l0 k y many acc (i : Int)) (numsR m acc y) := by
  intro m
  induction m with
  | zero =>
    intro i acc y hb hl ha hi
    exact Ev.step (f := fun _ => some (acc, y, 0)) (fun k => by rw [colloquyref04_numbers.l0, if_neg (by omega)]) (Ev.now _)
  | succ m ih =>
    intro i acc y hb hl ha hi
    have hp := getOf_pos_ hb
    have e1 := idx_step (i := i) (by omega)
    refine Ev.step (f := fun k => (colloquyref01_Get.f k y).bind fun g => if g.2.2 = 0 then (if acc.length < 17592186044416 then (if 0 ≤ g.2.1 then (if g.2.1 ≤ (y.length : Int) then colloquyref04_numbers.l0 k (y.drop g.2.1.toNat) many (acc ++ [g.1]) ((i + 1 : Nat) : Int) else none) else none) else none) else some ([], [], g.2.2)) (fun k => ?_) ?_
    · rw [colloquyref04_numbers.l0, if_pos (by omega), e1]
    · refine Ev.bind (refget_ev hb hl) ?_
      rw [numsR, numS_true]
      simp only
      by_cases c : (getOf y).2.2 = 0
      · simp only [if_pos c, if_pos (show acc.length < 17592186044416 by omega), if_pos hp.2.1, if_pos hp.2.2]
        exact ih (i + 1) _ _ (hb.drop _) (by rw [List.length_drop]; omega) (by rw [List.length_append, List.length_cons, List.length_nil]; omega) (by omega)
      · simp only [if_neg c]
        exact Ev.now _
theorem numbers_ev {y : List Int} (hb : Bs y) (hl : y.length < 1099511627776) (m : Nat) (hm : (m : Int) ≤ 10) : Ev (fun k => colloquyref04_numbers.f k y (m : Int)) (numsR m [] y) :=
  numbers_l (m : Int) hm m 0 [] y hb hl (Nat.zero_le _) (by omega)
theorem fin_ev (u q d h n : Int) (t : ByteArray) (y : List Int) : Ev (fun k => colloquyref04_Get.fin k d u q h n t y) (endS u q d h n t y 0) := by
  unfold colloquyref04_Get.fin endS
  refine Ev.bind (refmay_ev u q d h n t) ?_
  rw [if_pos rfl]
  by_cases c : 0 < y.length
  · simp only [if_pos c]; exact Ev.now _
  · simp only [if_neg c]
    by_cases cm : mayB u q d h n t = true
    · simp only [if_pos cm]; exact Ev.now _
    · simp only [if_neg cm]; exact Ev.now _
theorem rtxt_ev {y : List Int} (hb : Bs y) (hl : y.length < 1099511627776) (d u q h n : Int) : Ev (fun k => colloquyref04_Get.txt k d u q h n y) (getT d u q h n y 0) := by
  unfold colloquyref04_Get.txt getT
  simp only [worded_eq, Option.bind_some]
  cases ct : nt d with
  | true =>
    simp only [if_true]
    refine Ev.bind (numbers_ev hb hl 1 (by decide)) ?_
    have hs := numS_bytes hb 0 true
    unfold numsR numsR colloquyref04_Get.one txtS
    by_cases c : (numS y 0 true).2.2 = 0
    · simp only [if_pos c, if_true, List.nil_append]
      by_cases c2 : ((numS y 0 true).2.1.length : Int) < (numS y 0 true).1
      · simp only [if_pos c2]
        unfold endS
        rw [if_neg (by decide)]
        exact Ev.now _
      · simp only [if_neg c2, if_pos hs.2.2]
        exact fin_ev _ _ _ _ _ _ _
    · simp only [if_neg c]
      unfold endS
      rw [if_neg c]
      exact Ev.now _
  | false =>
    simp only [Bool.false_eq_true, if_false]
    have e : txtS y 0 false = (⟨#[]⟩, y, 0) := by
      unfold txtS numS
      simp only [Bool.false_eq_true, false_and, if_false, if_true]
      rw [if_neg (by omega)]
      rfl
    rw [e]
    exact fin_ev _ _ _ _ _ _ _
theorem rnum_ev {y : List Int} (hb : Bs y) (hl : y.length < 1099511627776) (d u q h : Int) : Ev (fun k => colloquyref04_Get.num k d u q h y) (getN d u q h y 0) := by
  unfold colloquyref04_Get.num getN
  simp only [numbered_eq, Option.bind_some]
  cases cn : nn d with
  | true =>
    simp only [if_true]
    refine Ev.bind (numbers_ev hb hl 1 (by decide)) ?_
    have hs := numS_bytes hb 0 true
    unfold numsR numsR colloquyref04_Get.one
    by_cases c : (numS y 0 true).2.2 = 0
    · simp only [if_pos c, if_true, List.nil_append]
      rw [c]
      exact rtxt_ev hs.1 (by omega) _ _ _ _ _
    · simp only [if_neg c]
      rw [getT_err c]
      exact Ev.now _
  | false =>
    simp only [Bool.false_eq_true, if_false]
    have e : numS y 0 false = (0, y, 0) := by unfold numS; rw [if_neg (by simp)]
    rw [e]
    exact rtxt_ev hb hl _ _ _ _ _
theorem refcget_ev {b : List Int} (hb : Bs b) (hl : b.length < 1099511627776) : Ev (fun k => colloquyref04_Get.f k b) (getC b) := by
  unfold colloquyref04_Get.f getC
  refine Ev.bind (numbers_ev hb hl 1 (by decide)) ?_
  have hs := numS_bytes hb 0 true
  unfold numsR numsR colloquyref04_Get.one
  by_cases c : ¬ (numS b 0 true).2.2 = 0
  · simp only [if_neg c]
    rw [show kindE (numS b 0 true).1 (numS b 0 true).2.2 = (numS b 0 true).2.2 by unfold kindE; rw [if_neg c], getU_err c]
    exact Ev.now _
  replace c := Classical.not_not.1 c
  simp only [if_pos c, if_true, List.nil_append]
  rw [c]
  generalize numS b 0 true = p0 at *
  by_cases c8 : p0.1 ≥ 8
  · simp only [if_pos c8]
    have ck : ¬ isK p0.1 = true := by unfold isK; rw [decide_eq_true_iff]; omega
    rw [show kindE p0.1 0 = 2 by unfold kindE; rw [if_pos rfl, if_neg ck], getU_err (by decide)]
    exact Ev.now _
  have ck : isK p0.1 = true := decide_eq_true ⟨hs.2.2, by omega⟩
  rw [show kindE p0.1 0 = 0 by unfold kindE; rw [if_pos rfl, if_pos ck]]
  simp only [if_neg c8]
  by_cases cz : p0.1 = 0
  · simp only [if_pos cz]
    rw [cz]
    have e0 : numS p0.2.1 0 false = (0, p0.2.1, 0) := by unfold numS; rw [if_neg (by simp)]
    have ee : getU 0 p0.2.1 0 = endS 0 0 0 0 0 ⟨#[]⟩ p0.2.1 0 := by
      unfold getU getQ getH getN getT
      rw [show nu 0 = false from rfl, show nn 0 = false from rfl, show nt 0 = false from rfl]
      have e : txtS p0.2.1 0 false = (⟨#[]⟩, p0.2.1, 0) := by
        unfold txtS
        rw [e0]
        simp only [if_true]
        rw [if_neg (by omega)]
        rfl
      simp only [e0, e]
    rw [ee, numbered_eq, worded_eq]
    exact Ev.congr (fun k => if_pos ⟨rfl, rfl⟩) (fin_ev 0 0 0 0 0 _ _)
  simp only [if_neg cz]
  have cu : nu p0.1 = true := decide_eq_true (by have := hs.2.2; omega)
  refine Ev.bind (numbers_ev hs.1 (by omega) 3 (by decide)) ?_
  unfold getU
  rw [cu]
  have h1 := numS_bytes hs.1 0 true
  unfold numsR colloquyref04_Get.three
  by_cases c1 : ¬ (numS p0.2.1 0 true).2.2 = 0
  · simp only [if_neg c1]
    rw [getQ_err c1]
    exact Ev.now _
  replace c1 := Classical.not_not.1 c1
  simp only [if_pos c1, List.nil_append]
  rw [c1]
  generalize numS p0.2.1 0 true = p1 at *
  unfold getQ
  rw [cu]
  have h2 := numS_bytes h1.1 0 true
  unfold numsR
  by_cases c2 : ¬ (numS p1.2.1 0 true).2.2 = 0
  · simp only [if_neg c2]
    rw [getH_err c2]
    exact Ev.now _
  replace c2 := Classical.not_not.1 c2
  simp only [if_pos c2]
  rw [c2]
  generalize numS p1.2.1 0 true = p2 at *
  unfold getH
  rw [cu]
  have h3 := numS_bytes h2.1 0 true
  unfold numsR numsR
  by_cases c3 : ¬ (numS p2.2.1 0 true).2.2 = 0
  · simp only [if_neg c3]
    rw [getN_err c3]
    exact Ev.now _
  replace c3 := Classical.not_not.1 c3
  simp only [if_pos c3, if_true, List.cons_append, List.nil_append]
  rw [c3]
  exact rnum_ev h3.1 (by omega) _ _ _ _
end Go.Proofs.Ythkipipfdlepnaa.Pure

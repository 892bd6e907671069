/- Proved: the sum of any bytes, and whether a number may be one, are what the reference says. Condition: none beyond the guard of the statement (more than 6000 bytes are let go). -/
import Derived.Test.YtbkfnhkgfagelaaPureAdlerTells
namespace Go.Proofs.Ytbkfnhkgfagelaa.Pure
open Go.RowKit Go.Proofs.Ytbkfnhkgfagelaa.PAll Go.Proofs.YtbkfnhkgfagelaaW.PrintWords Go.Proofs.YtbkfnhkgfagelaaW.PrintLast

theorem refsum_l (l : List Int) (hl : l.length < 1099511627776) (hb : ∀ c ∈ l, 0 ≤ c ∧ c < 256) : ∀ (d i : Nat) (x y : Int), l.length - i = d → i ≤ l.length → 0 ≤ x → x < 65521 → 0 ≤ y → y < 65521 →
    Ev (fun k => colloquyref02_Sum.l0 k l x y (i : Int)) (whole (x + (l.drop i).sum) (y + ((l.drop i).length : Int) * x + wsum (l.drop i))) := by
  intro d
  induction d with
  | zero =>
    intro i x y hd hi hx hx1 hy hy1
    have e : i = l.length := by omega
    subst e
    refine Ev.step (f := fun k => (colloquyref02_whole.f x y).bind fun t => some t) (fun k => ?_) ?_
    · simp only [colloquyref02_Sum.l0]; rw [if_neg (by omega)]
    · rw [ref_whole]
      have : whole (x + (l.drop l.length).sum) (y + ((l.drop l.length).length : Int) * x + wsum (l.drop l.length)) = whole x y := by simp [wsum]
      rw [this]; exact Ev.now _
  | succ d ih =>
    intro i x y hd hi hx hx1 hy hy1
    have hlt : i < l.length := by omega
    have hlt' : (i : Int) < (l.length : Int) := by omega
    have hc := hb (l.getD i 0) (by rw [getD_lt hlt]; exact List.getElem_mem hlt)
    have key := ih (i + 1) ((x + l.getD i 0) % 65521) ((y + (x + l.getD i 0) % 65521) % 65521) (by omega) (by omega) (by omega) (by omega) (by omega) (by omega)
    rw [sum_step, ← drop_cons_getD hlt 0] at key
    have e0 : wrap64 (l.getD i 0) = l.getD i 0 := wrap64_id (by omega) (by omega)
    have e1 : wrap64 (x + l.getD i 0) = x + l.getD i 0 := wrap64_id (by omega) (by omega)
    have e2 : wrap64 (y + (x + l.getD i 0) % 65521) = y + (x + l.getD i 0) % 65521 := wrap64_id (by omega) (by omega)
    have e4 := idx_step (Nat.lt_trans hlt hl)
    refine Ev.step (fun k => ?_) key
    simp only [colloquyref02_Sum.l0]
    rw [if_pos hlt', if_pos (Int.natCast_nonneg i)]
    simp only [rd, Int.toNat_natCast, ref_modulo, Option.bind_some]
    rw [e0, e1, e2, e4]
theorem refsum_ev (l : List Int) (hl : l.length < 1099511627776) (hb : ∀ c ∈ l, 0 ≤ c ∧ c < 256) : Ev (fun k => colloquyref02_Sum.f k l) (sumOf l) := by
  have := refsum_l l hl hb l.length 0 1 0 (by omega) (by omega) (by omega) (by omega) (by omega) (by omega)
  simpa [colloquyref02_Sum.f, sumOf] using this
theorem ref_may {a : Int} (h0 : 0 ≤ a) (h1 : a < 4294967296) : colloquyref02_May.f a = some (decide (a % 65536 < 65521) && decide (a / 65536 < 65521)) := by
  unfold colloquyref02_May.f
  rw [Int.tmod_eq_emod_of_nonneg h0, hi_eq h0 h1]
  by_cases h : a % 65536 < 65521
  · rw [if_pos h]; simp [h]
  · rw [if_neg h]; simp [h]
theorem AdlerSums : colloquylaw02_AdlerSums.Pure := by
  intro l n _ hl hb hn
  have hn := u32_bd hn
  have hb := u8_bd hb
  refine Ev.rounds (Ev.bind awake_ev ?_)
  simp only [if_true]
  by_cases h : (l.length : Int) > 6000
  · rw [decide_eq_true h]
    exact Ev.step (f := fun _ => some true) (fun k => by simp only [colloquylaw02_AdlerSums.j0, if_true]) (Ev.now _)
  · rw [decide_eq_false h]
    have hl : l.length < 1099511627776 := by omega
    refine Ev.step (fun k => by simp only [colloquylaw02_AdlerSums.j0]; rw [if_neg (by decide)]) ?_
    refine Ev.bind (sum_ev l hl hb) (Ev.bind (refsum_ev l hl hb) ?_)
    rw [ref_may hn.1 hn.2]
    simp only [if_true, Option.bind_some]
    refine Ev.bind (may_ev hn.1 hn.2) ?_
    simp only [BEq.rfl, if_true]
    refine Ev.bind (sum_ev l hl hb) (Ev.bind (may_ev (sumOf_bd l).1 (sumOf_bd l).2) ?_)
    have e : (decide (sumOf l % 65536 < 65521) && decide (sumOf l / 65536 < 65521)) = true := by
      unfold sumOf; rw [whole_lo, whole_hi]; simp; omega
    rw [e]
    exact Ev.now _
end Go.Proofs.Ytbkfnhkgfagelaa.Pure

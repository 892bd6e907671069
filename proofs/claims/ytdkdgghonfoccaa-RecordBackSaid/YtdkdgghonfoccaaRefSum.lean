/- Plain laws of layer 2: the reference's sum is the program's. -/
import Derived.Test.YtdkdgghonfoccaaPAllx3
import Derived.Test.YtdkdgghonfoccaaAdlerSum
namespace Go.Proofs.Ytdkdgghonfoccaa.Pure
open Go.RowKit Go.Proofs.Ytdkdgghonfoccaa.PAll Go.Proofs.YtdkdgghonfoccaaW.PrintWords Go.Proofs.YtdkdgghonfoccaaW.PrintLast Go.Proofs.YtdkdgghonfoccaaW.PrintMore
theorem ref_modulo {a : Int} : colloquyref02_modulo.f a = some (a % 65521) := by
  unfold colloquyref02_modulo.f
  obtain ⟨q, hq, hq1, hq2⟩ := tm a
  generalize a.tmod 65521 = m at *
  by_cases h : m < 0
  · rw [if_pos h, wrap64_id (by omega) (by omega)]; congr 1; omega
  · rw [if_neg h]; congr 1; omega
theorem ref_whole {x y : Int} : colloquyref02_whole.f x y = some (whole x y) := by
  unfold colloquyref02_whole.f
  rw [ref_modulo, ref_modulo]
  simp only [Option.bind_some]
  rw [wrap64_id (a := y % 65521 * 65536) (by omega) (by omega), wrap64_id (by omega) (by omega)]
  unfold whole
  congr 1; omega
theorem refsum_l (l : List Int) (hl : l.length < 1099511627776) (hb : Bs l) : ∀ (d i : Nat) (x y : Int), l.length - i = d → i ≤ l.length → 0 ≤ x → x < 65521 → 0 ≤ y → y < 65521 →
    Ev (fun k => colloquyref02_Sum.l0 k l x y (i : Int)) (whole (x + (l.drop i).sum) (y + ((l.drop i).length : Int) * x + wsum (l.drop i))) := by
  intro d
  induction d with
  | zero =>
    intro i x y hd hi hx hx1 hy hy1
    have e : i = l.length := by omega
    subst e
    refine Ev.step (f := fun k => (colloquyref02_whole.f x y).bind fun t => some t) (fun k => ?_) ?_
    · simp only [colloquyref02_Sum.l0]; rw [if_neg (by omega)]
    · rw [ref_whole]
      have : whole (x + (l.drop l.length).sum) (y + ((l.drop l.length).length : Int) * x + wsum (l.drop l.length)) = whole x y := by simp [wsum]
      rw [this]; exact Ev.now _
  | succ d ih =>
    intro i x y hd hi hx hx1 hy hy1
    have hlt : i < l.length := by omega
    have hlt' : (i : Int) < (l.length : Int) := by omega
    have hc := hb (l.getD i 0) (by rw [getD_lt hlt]; exact List.getElem_mem hlt)
    have key := ih (i + 1) ((x + l.getD i 0) % 65521) ((y + (x + l.getD i 0) % 65521) % 65521) (by omega) (by omega) (by omega) (by omega) (by omega) (by omega)
    rw [sum_step, ← drop_cons_getD hlt 0] at key
    have e0 : wrap64 (l.getD i 0) = l.getD i 0 := wrap64_id (by omega) (by omega)
    have e1 : wrap64 (x + l.getD i 0) = x + l.getD i 0 := wrap64_id (by omega) (by omega)
    have e2 : wrap64 (y + (x + l.getD i 0) % 65521) = y + (x + l.getD i 0) % 65521 := wrap64_id (by omega) (by omega)
    have e4 := idx_step (Nat.lt_trans hlt hl)
    refine Ev.step (fun k => ?_) key
    simp only [colloquyref02_Sum.l0]
    rw [if_pos hlt', if_pos (Int.natCast_nonneg i)]
    simp only [rd, Int.toNat_natCast, ref_modulo, Option.bind_some]
    rw [e0, e1, e2, e4]
theorem refsum_ev (l : List Int) (hl : l.length < 1099511627776) (hb : Bs l) : Ev (fun k => colloquyref02_Sum.f k l) (sumOf l) := by
  have := refsum_l l hl hb l.length 0 1 0 (by omega) (by omega) (by omega) (by omega) (by omega) (by omega)
  simpa [colloquyref02_Sum.f, sumOf] using this
end Go.Proofs.Ytdkdgghonfoccaa.Pure

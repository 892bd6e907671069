/- Plain laws of the sums of layer 2, for the layers above. -/
import Derived.Test.YtdkdgghonfoccaaPAllx2
import Derived.Test.YtdkdgghonfoccaaBase
namespace Go.Proofs.Ytdkdgghonfoccaa.Pure
open Go.RowKit Go.Proofs.Ytdkdgghonfoccaa.PAll Go.Proofs.YtdkdgghonfoccaaW.PrintWords Go.Proofs.YtdkdgghonfoccaaW.PrintLast Go.Proofs.YtdkdgghonfoccaaW.PrintMore

theorem tm (a : Int) : ∃ q, a.tmod 65521 = a - 65521 * q ∧ -65521 < a.tmod 65521 ∧ a.tmod 65521 < 65521 :=
  ⟨a.tdiv 65521, by have := Int.tmod_add_mul_tdiv a 65521; omega, by have := Int.lt_tmod_of_pos a (b := 65521) (by decide); omega, Int.tmod_lt_of_pos a (by decide)⟩

theorem mod_step {n c : Int} (h0 : 0 ≤ n) (h1 : n < 65521) : (wrap64 (wrap64 (n + c.tmod 65521) + 65521)).tmod 65521 = (n + c) % 65521 := by
  obtain ⟨q, hq, hq1, hq2⟩ := tm c
  generalize c.tmod 65521 = m at *
  rw [wrap64_id (a := n + m) (by omega) (by omega), wrap64_id (by omega) (by omega), Int.tmod_eq_emod_of_nonneg (by omega)]
  omega
theorem modulo_l (l : List Int) (hl : l.length < 1099511627776) : ∀ (d i : Nat) (n : Int), l.length - i = d → i ≤ l.length → 0 ≤ n → n < 65521 →
    Ev (fun k => adler_modulo.l0 k n l (l.length : Int) (i : Int)) ((n + (l.drop i).sum) % 65521) := by
  intro d
  induction d with
  | zero =>
    intro i n hd hi h0 h1
    have e : i = l.length := by omega
    subst e
    refine Ev.step (f := fun _ => some n) (fun k => ?_) ?_
    · simp only [adler_modulo.l0]; rw [if_neg (by omega)]
    · have : (n + (l.drop l.length).sum) % 65521 = n := by simp; omega
      rw [this]; exact Ev.now _
  | succ d ih =>
    intro i n hd hi h0 h1
    have hlt : i < l.length := by omega
    have hlt' : (i : Int) < (l.length : Int) := by omega
    have key := ih (i + 1) ((n + l.getD i 0) % 65521) (by omega) (by omega) (by omega) (by omega)
    have er : ((n + l.getD i 0) % 65521 + (l.drop (i + 1)).sum) % 65521 = (n + (l.drop i).sum) % 65521 := by
      rw [drop_cons_getD hlt 0, List.sum_cons, Int.emod_add_emod, Int.add_assoc]
    rw [er] at key
    refine Ev.step (fun k => ?_) key
    simp only [adler_modulo.l0]
    rw [if_pos hlt', if_pos (Int.natCast_nonneg i), if_pos hlt']
    simp only [rd, Int.toNat_natCast]
    rw [mod_step h0 h1, idx_step (Nat.lt_trans hlt hl)]

theorem modulo_ev (l : List Int) (hl : l.length < 1099511627776) : Ev (fun k => adler_modulo.f k l) (l.sum % 65521) := by
  have := modulo_l l hl l.length 0 0 (by omega) (by omega) (by omega) (by omega)
  simpa [adler_modulo.f] using this
theorem modulo1 (a : Int) : Ev (fun k => adler_modulo.f k [a]) (a % 65521) := by simpa using modulo_ev [a] (by simp)
theorem modulo2 (a b : Int) : Ev (fun k => adler_modulo.f k [a, b]) ((a + b) % 65521) := by simpa using modulo_ev [a, b] (by simp)
theorem modulo3 (a b c : Int) : Ev (fun k => adler_modulo.f k [a, b, c]) ((a + (b + c)) % 65521) := by simpa using modulo_ev [a, b, c] (by simp)

/-- Two parts as one number. -/
def whole (x y : Int) : Int := (y % 65521) * 65536 + x % 65521
theorem whole_lo (x y : Int) : whole x y % 65536 = x % 65521 := by unfold whole; omega
theorem whole_hi (x y : Int) : whole x y / 65536 = y % 65521 := by unfold whole; omega
theorem whole_bd (x y : Int) : 0 ≤ whole x y ∧ whole x y < 4294967296 := by unfold whole; omega
theorem whole_congr {x y x' y' : Int} (hx : x % 65521 = x' % 65521) (hy : y % 65521 = y' % 65521) : whole x y = whole x' y' := by unfold whole; rw [hx, hy]
theorem whole_inj {x y x' y' : Int} (h : whole x y = whole x' y') : x % 65521 = x' % 65521 ∧ y % 65521 = y' % 65521 :=
  ⟨by rw [← whole_lo x y, h, whole_lo], by rw [← whole_hi x y, h, whole_hi]⟩

theorem parts_ev (x y : Int) : Ev (fun k => adler_parts_sum.f k x y) (whole x y) := by
  refine Ev.bind (modulo1 y) (Ev.bind (modulo1 x) ?_)
  have e : (Go.bits .or .i64 (wrap64 (y % 65521 * 65536)) (x % 65521)) % 4294967296 = whole x y := by
    rw [wrap64_id (by omega) (by omega), bits_join .i64 62 (by decide) wraps62 16 _ _ (by omega) (by omega) (by omega) (by omega) (by omega) (by omega)]
    unfold whole
    omega
  rw [e]
  exact Ev.now _

/-- The weighted sum of bytes: the first one counts as often as there are bytes. -/
def wsum : List Int → Int
  | [] => 0
  | c :: l => ((l.length : Int) + 1) * c + wsum l
theorem wsum_append (a b : List Int) : wsum (a ++ b) = wsum a + (b.length : Int) * a.sum + wsum b := by
  induction a with
  | nil => simp [wsum]
  | cons c a ih =>
    simp only [List.cons_append, wsum, List.sum_cons, List.length_append, ih]
    rw [Int.mul_add, Int.natCast_add]
    have : ((a.length : Int) + (b.length : Int) + 1) * c = ((a.length : Int) + 1) * c + (b.length : Int) * c := by
      rw [show (a.length : Int) + (b.length : Int) + 1 = ((a.length : Int) + 1) + (b.length : Int) by omega, Int.add_mul]
    omega

theorem sum_step (x y c : Int) (r : List Int) : whole ((x + c) % 65521 + r.sum) ((y + (x + c) % 65521) % 65521 + (r.length : Int) * ((x + c) % 65521) + wsum r)
    = whole (x + (c :: r).sum) (y + ((c :: r).length : Int) * x + wsum (c :: r)) := by
  simp only [List.sum_cons, wsum, List.length_cons]
  refine whole_congr (by omega) ?_
  have e1 : ((r.length : Int) * ((x + c) % 65521)) % 65521 = ((r.length : Int) * (x + c)) % 65521 := by
    rw [Int.mul_emod, Int.emod_emod_of_dvd _ (Int.dvd_refl _), ← Int.mul_emod]
  have e2 : ((r.length : Int) + 1) * c = (r.length : Int) * c + c := by rw [Int.add_mul, Int.one_mul]
  have e3 : (((r.length + 1 : Nat) : Int)) * x = (r.length : Int) * x + x := by rw [Int.natCast_add, Int.add_mul]; simp
  have e5 : (r.length : Int) * (x + c) = (r.length : Int) * x + (r.length : Int) * c := Int.mul_add _ _ _
  rw [e2, e3]
  rw [e5] at e1
  clear e2 e3 e5
  generalize (r.length : Int) * ((x + c) % 65521) = u at *
  generalize (r.length : Int) * x = v at *
  generalize (r.length : Int) * c = t at *
  omega
theorem sum_l (l : List Int) (hl : l.length < 1099511627776) (hb : Bs l) : ∀ (d i : Nat) (x y : Int), l.length - i = d → i ≤ l.length → 0 ≤ x → x < 65521 → 0 ≤ y → y < 65521 →
    Ev (fun k => adler_Sum.l0 k l (l.length : Int) (i : Int) x y) (whole (x + (l.drop i).sum) (y + ((l.drop i).length : Int) * x + wsum (l.drop i))) := by
  intro d
  induction d with
  | zero =>
    intro i x y hd hi hx hx1 hy hy1
    have e : i = l.length := by omega
    subst e
    refine Ev.step (f := fun k => (adler_parts_sum.f k x y).bind fun t => some t) (fun k => ?_) ?_
    · simp only [adler_Sum.l0]; rw [if_neg (by omega)]
    · refine Ev.bind (parts_ev x y) ?_
      have : whole (x + (l.drop l.length).sum) (y + ((l.drop l.length).length : Int) * x + wsum (l.drop l.length)) = whole x y := by simp [wsum]
      rw [this]; exact Ev.now _
  | succ d ih =>
    intro i x y hd hi hx hx1 hy hy1
    have hlt : i < l.length := by omega
    have hlt' : (i : Int) < (l.length : Int) := by omega
    have hc := hb (l.getD i 0) (by rw [getD_lt hlt]; exact List.getElem_mem hlt)
    have key := ih (i + 1) ((x + l.getD i 0) % 65521) ((y + (x + l.getD i 0) % 65521) % 65521) (by omega) (by omega) (by omega) (by omega) (by omega) (by omega)
    rw [sum_step, ← drop_cons_getD hlt 0] at key
    have e0 : wrap64 (l.getD i 0) = l.getD i 0 := wrap64_id (by omega) (by omega)
    have e4 := idx_step (Nat.lt_trans hlt hl)
    refine Ev.step (f := fun k => (adler_modulo.f k [x, wrap64 (l.getD i 0)]).bind fun t => (adler_modulo.f k [y, t]).bind fun t' => adler_Sum.l0 k l (l.length : Int) (wrap64 ((i : Int) + 1)) t t') (fun k => ?_) ?_
    · simp only [adler_Sum.l0]
      rw [if_pos hlt', if_pos (Int.natCast_nonneg i), if_pos hlt']
      simp only [rd, Int.toNat_natCast]
    · rw [e0, e4]
      exact Ev.bind (modulo2 _ _) (Ev.bind (modulo2 _ _) key)

/-- Of so many bytes. -/
def sumOf (l : List Int) : Int := whole (1 + l.sum) ((l.length : Int) + wsum l)
theorem sum_ev (l : List Int) (hl : l.length < 1099511627776) (hb : Bs l) : Ev (fun k => adler_Sum.f k l) (sumOf l) := by
  have := sum_l l hl hb l.length 0 1 0 (by omega) (by omega) (by omega) (by omega) (by omega) (by omega)
  simpa [adler_Sum.f, sumOf] using this

theorem sumOf_bd (l : List Int) : 0 ≤ sumOf l ∧ sumOf l < 4294967296 := whole_bd _ _
end Go.Proofs.Ytdkdgghonfoccaa.Pure

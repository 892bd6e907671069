/- Plain laws of the sums of layer 2: what each printed function computes, in closed form modulo 65521. -/
import Derived.Test.YtbkfnhkgfagelaaPAllx
namespace Go.Proofs.Ytbkfnhkgfagelaa.Pure
open Go.RowKit Go.Proofs.Ytbkfnhkgfagelaa.PAll Go.Proofs.YtbkfnhkgfagelaaW.PrintWords Go.Proofs.YtbkfnhkgfagelaaW.PrintLast

theorem wrap64_id {a : Int} (h0 : -9223372036854775808 ≤ a) (h1 : a ≤ 9223372036854775807) : wrap64 a = a := by unfold wrap64; omega
theorem wraps62 (n : Int) (h0 : 0 ≤ n) (h1 : n < 2 ^ 62) : IntKind.i64.wrap n = n := by rw [IntKind.wrap_i64]; omega
theorem wraps32 (n : Int) (h0 : 0 ≤ n) (h1 : n < 2 ^ 32) : IntKind.u32.wrap n = n := by rw [IntKind.wrap_u32]; omega
theorem tm (a : Int) : ∃ q, a.tmod 65521 = a - 65521 * q ∧ -65521 < a.tmod 65521 ∧ a.tmod 65521 < 65521 :=
  ⟨a.tdiv 65521, by have := Int.tmod_add_mul_tdiv a 65521; omega, by have := Int.lt_tmod_of_pos a (b := 65521) (by decide); omega, Int.tmod_lt_of_pos a (by decide)⟩

theorem getD_lt {α : Type} {l : List α} {i : Nat} (h : i < l.length) (d : α) : l.getD i d = l[i] := by simp [h]
theorem drop_cons_getD {α : Type} {l : List α} {i : Nat} (h : i < l.length) (d : α) : l.drop i = l.getD i d :: l.drop (i + 1) := by
  rw [getD_lt h]; exact List.drop_eq_getElem_cons h

theorem idx_step {i : Nat} (h : i < 1099511627776) : wrap64 ((i : Int) + 1) = ((i + 1 : Nat) : Int) := by
  rw [wrap64_id (by omega) (by omega)]; omega
theorem mod_step {n c : Int} (h0 : 0 ≤ n) (h1 : n < 65521) : (wrap64 (wrap64 (n + c.tmod 65521) + 65521)).tmod 65521 = (n + c) % 65521 := by
  obtain ⟨q, hq, hq1, hq2⟩ := tm c
  generalize c.tmod 65521 = m at *
  rw [wrap64_id (a := n + m) (by omega) (by omega), wrap64_id (by omega) (by omega), Int.tmod_eq_emod_of_nonneg (by omega)]
  omega
theorem modulo_l (l : List Int) (hl : l.length < 1099511627776) : ∀ (d i : Nat) (n : Int), l.length - i = d → i ≤ l.length → 0 ≤ n → n < 65521 →
    Ev (fun k => adler_modulo.l0 k n l (l.length : Int) (i : Int)) ((n + (l.drop i).sum) % 65521) := by
  intro d
  induction d with
  | zero =>
    intro i n hd hi h0 h1
    have e : i = l.length := by omega
    subst e
    refine Ev.step (f := fun _ => some n) (fun k => ?_) ?_
    · simp only [adler_modulo.l0]; rw [if_neg (by omega)]
    · have : (n + (l.drop l.length).sum) % 65521 = n := by simp; omega
      rw [this]; exact Ev.now _
  | succ d ih =>
    intro i n hd hi h0 h1
    have hlt : i < l.length := by omega
    have hlt' : (i : Int) < (l.length : Int) := by omega
    have key := ih (i + 1) ((n + l.getD i 0) % 65521) (by omega) (by omega) (by omega) (by omega)
    have er : ((n + l.getD i 0) % 65521 + (l.drop (i + 1)).sum) % 65521 = (n + (l.drop i).sum) % 65521 := by
      rw [drop_cons_getD hlt 0, List.sum_cons, Int.emod_add_emod, Int.add_assoc]
    rw [er] at key
    refine Ev.step (fun k => ?_) key
    simp only [adler_modulo.l0]
    rw [if_pos hlt', if_pos (Int.natCast_nonneg i), if_pos hlt']
    simp only [rd, Int.toNat_natCast]
    rw [mod_step h0 h1, idx_step (Nat.lt_trans hlt hl)]

theorem modulo_ev (l : List Int) (hl : l.length < 1099511627776) : Ev (fun k => adler_modulo.f k l) (l.sum % 65521) := by
  have := modulo_l l hl l.length 0 0 (by omega) (by omega) (by omega) (by omega)
  simpa [adler_modulo.f] using this
theorem modulo1 (a : Int) : Ev (fun k => adler_modulo.f k [a]) (a % 65521) := by simpa using modulo_ev [a] (by simp)
theorem modulo2 (a b : Int) : Ev (fun k => adler_modulo.f k [a, b]) ((a + b) % 65521) := by simpa using modulo_ev [a, b] (by simp)
theorem modulo3 (a b c : Int) : Ev (fun k => adler_modulo.f k [a, b, c]) ((a + (b + c)) % 65521) := by simpa using modulo_ev [a, b, c] (by simp)

/-- Two parts as one number. -/
def whole (x y : Int) : Int := (y % 65521) * 65536 + x % 65521
theorem whole_lo (x y : Int) : whole x y % 65536 = x % 65521 := by unfold whole; omega
theorem whole_hi (x y : Int) : whole x y / 65536 = y % 65521 := by unfold whole; omega
theorem whole_bd (x y : Int) : 0 ≤ whole x y ∧ whole x y < 4294967296 := by unfold whole; omega
theorem whole_congr {x y x' y' : Int} (hx : x % 65521 = x' % 65521) (hy : y % 65521 = y' % 65521) : whole x y = whole x' y' := by unfold whole; rw [hx, hy]
theorem whole_inj {x y x' y' : Int} (h : whole x y = whole x' y') : x % 65521 = x' % 65521 ∧ y % 65521 = y' % 65521 :=
  ⟨by rw [← whole_lo x y, h, whole_lo], by rw [← whole_hi x y, h, whole_hi]⟩

theorem parts_ev (x y : Int) : Ev (fun k => adler_parts_sum.f k x y) (whole x y) := by
  refine Ev.bind (modulo1 y) (Ev.bind (modulo1 x) ?_)
  have e : (Go.bits .or .i64 (wrap64 (y % 65521 * 65536)) (x % 65521)) % 4294967296 = whole x y := by
    rw [wrap64_id (by omega) (by omega), bits_join .i64 62 (by decide) wraps62 16 _ _ (by omega) (by omega) (by omega) (by omega) (by omega) (by omega)]
    unfold whole
    omega
  rw [e]
  exact Ev.now _

/-- The weighted sum of bytes: the first one counts as often as there are bytes. -/
def wsum : List Int → Int
  | [] => 0
  | c :: l => ((l.length : Int) + 1) * c + wsum l
theorem wsum_append (a b : List Int) : wsum (a ++ b) = wsum a + (b.length : Int) * a.sum + wsum b := by
  induction a with
  | nil => simp [wsum]
  | cons c a ih =>
    simp only [List.cons_append, wsum, List.sum_cons, List.length_append, ih]
    rw [Int.mul_add, Int.natCast_add]
    have : ((a.length : Int) + (b.length : Int) + 1) * c = ((a.length : Int) + 1) * c + (b.length : Int) * c := by
      rw [show (a.length : Int) + (b.length : Int) + 1 = ((a.length : Int) + 1) + (b.length : Int) by omega, Int.add_mul]
    omega

theorem sum_step (x y c : Int) (r : List Int) : whole ((x + c) % 65521 + r.sum) ((y + (x + c) % 65521) % 65521 + (r.length : Int) * ((x + c) % 65521) + wsum r)
    = whole (x + (c :: r).sum) (y + ((c :: r).length : Int) * x + wsum (c :: r)) := by
  simp only [List.sum_cons, wsum, List.length_cons]
  refine whole_congr (by omega) ?_
  have e1 : ((r.length : Int) * ((x + c) % 65521)) % 65521 = ((r.length : Int) * (x + c)) % 65521 := by
    rw [Int.mul_emod, Int.emod_emod_of_dvd _ (Int.dvd_refl _), ← Int.mul_emod]
  have e2 : ((r.length : Int) + 1) * c = (r.length : Int) * c + c := by rw [Int.add_mul, Int.one_mul]
  have e3 : (((r.length + 1 : Nat) : Int)) * x = (r.length : Int) * x + x := by rw [Int.natCast_add, Int.add_mul]; simp
  have e5 : (r.length : Int) * (x + c) = (r.length : Int) * x + (r.length : Int) * c := Int.mul_add _ _ _
  rw [e2, e3]
  rw [e5] at e1
  clear e2 e3 e5
  generalize (r.length : Int) * ((x + c) % 65521) = u at *
  generalize (r.length : Int) * x = v at *
  generalize (r.length : Int) * c = t at *
  omega
theorem sum_l (l : List Int) (hl : l.length < 1099511627776) (hb : ∀ c ∈ l, 0 ≤ c ∧ c < 256) : ∀ (d i : Nat) (x y : Int), l.length - i = d → i ≤ l.length → 0 ≤ x → x < 65521 → 0 ≤ y → y < 65521 →
    Ev (fun k => adler_Sum.l0 k l (l.length : Int) (i : Int) x y) (whole (x + (l.drop i).sum) (y + ((l.drop i).length : Int) * x + wsum (l.drop i))) := by
  intro d
  induction d with
  | zero =>
    intro i x y hd hi hx hx1 hy hy1
    have e : i = l.length := by omega
    subst e
    refine Ev.step (f := fun k => (adler_parts_sum.f k x y).bind fun t => some t) (fun k => ?_) ?_
    · simp only [adler_Sum.l0]; rw [if_neg (by omega)]
    · refine Ev.bind (parts_ev x y) ?_
      have : whole (x + (l.drop l.length).sum) (y + ((l.drop l.length).length : Int) * x + wsum (l.drop l.length)) = whole x y := by simp [wsum]
      rw [this]; exact Ev.now _
  | succ d ih =>
    intro i x y hd hi hx hx1 hy hy1
    have hlt : i < l.length := by omega
    have hlt' : (i : Int) < (l.length : Int) := by omega
    have hc := hb (l.getD i 0) (by rw [getD_lt hlt]; exact List.getElem_mem hlt)
    have key := ih (i + 1) ((x + l.getD i 0) % 65521) ((y + (x + l.getD i 0) % 65521) % 65521) (by omega) (by omega) (by omega) (by omega) (by omega) (by omega)
    rw [sum_step, ← drop_cons_getD hlt 0] at key
    have e0 : wrap64 (l.getD i 0) = l.getD i 0 := wrap64_id (by omega) (by omega)
    have e4 := idx_step (Nat.lt_trans hlt hl)
    refine Ev.step (f := fun k => (adler_modulo.f k [x, wrap64 (l.getD i 0)]).bind fun t => (adler_modulo.f k [y, t]).bind fun t' => adler_Sum.l0 k l (l.length : Int) (wrap64 ((i : Int) + 1)) t t') (fun k => ?_) ?_
    · simp only [adler_Sum.l0]
      rw [if_pos hlt', if_pos (Int.natCast_nonneg i), if_pos hlt']
      simp only [rd, Int.toNat_natCast]
    · rw [e0, e4]
      exact Ev.bind (modulo2 _ _) (Ev.bind (modulo2 _ _) key)

/-- Of so many bytes. -/
def sumOf (l : List Int) : Int := whole (1 + l.sum) ((l.length : Int) + wsum l)
theorem sum_ev (l : List Int) (hl : l.length < 1099511627776) (hb : ∀ c ∈ l, 0 ≤ c ∧ c < 256) : Ev (fun k => adler_Sum.f k l) (sumOf l) := by
  have := sum_l l hl hb l.length 0 1 0 (by omega) (by omega) (by omega) (by omega) (by omega) (by omega)
  simpa [adler_Sum.f, sumOf] using this

theorem awake_ev : Ev (fun k => colloquylaw02_awake.f k) true := by
  refine Ev.bind (sum_ev [] (by simp) (by simp)) ?_
  have e : sumOf [] = 1 := by decide
  refine Ev.congr (f := fun k => (adler_Sum.f k [87, 105, 107, 105, 112, 101, 100, 105, 97]).bind fun t2 => some (t2 == 300286872)) (fun k => by rw [if_pos e]) ?_
  refine Ev.bind (sum_ev _ (by simp) (by simp)) ?_
  have e2 : (sumOf [87, 105, 107, 105, 112, 101, 100, 105, 97] == 300286872) = true := by decide
  rw [e2]
  exact Ev.now _

theorem of_eq {a : Int} (h0 : 0 ≤ a) (h1 : a < 4294967296) : adler_of.f a = some (a % 65536, a / 65536) := by
  unfold adler_of.f
  have e := bits_mask .u32 32 (by decide) wraps32 16 (by decide) a h0 (by omega)
  rw [show ((2 : Int) ^ 16 - 1) = 65535 by decide, show ((2 : Int) ^ 16) = 65536 by decide] at e
  rw [e, wrap64_id (by omega) (by omega), wrap64_id (by omega) (by omega)]

/-- Two sums joined. -/
def joined (a b n : Int) : Int := whole (a % 65536 + b % 65536 - 1) (a / 65536 + b / 65536 + max n 0 * (a % 65536 - 1))
theorem mx_max (a b : Int) : mx a b = max a b := by unfold mx; omega
theorem mn_min (a b : Int) : mn a b = min a b := by unfold mn; omega
theorem join_ev {a b n : Int} (ha0 : 0 ≤ a) (ha1 : a < 4294967296) (hb0 : 0 ≤ b) (hb1 : b < 4294967296) : Ev (fun k => adler_Join.f k a b n) (joined a b n) := by
  unfold adler_Join.f
  rw [of_eq ha0 ha1, of_eq hb0 hb1]
  simp only [Option.bind_some]
  refine Ev.bind (modulo1 _) (Ev.bind (modulo2 _ _) (Ev.bind (modulo3 _ _ _) (Ev.bind (modulo3 _ _ _) (Ev.bind (parts_ev _ _) ?_))))
  have e : whole ((a % 65536 + (b % 65536 + -1)) % 65521) ((a / 65536 + (b / 65536 + wrap64 (mx n 0 % 65521 * ((a % 65536 + -1) % 65521)))) % 65521) = joined a b n := by
    have hp : mx n 0 % 65521 * ((a % 65536 + -1) % 65521) ≤ 65521 * 65521 := Int.mul_le_mul (by omega) (by omega) (by omega) (by omega)
    have hq : 0 ≤ mx n 0 % 65521 * ((a % 65536 + -1) % 65521) := Int.mul_nonneg (by omega) (by omega)
    have hm : (mx n 0 % 65521 * ((a % 65536 + -1) % 65521)) % 65521 = (mx n 0 * (a % 65536 + -1)) % 65521 := (Int.mul_emod _ _ _).symm
    rw [wrap64_id (by omega) (by omega)]
    rw [mx_max] at *
    unfold joined
    rw [show a % 65536 - 1 = a % 65536 + -1 by omega]
    generalize max n 0 % 65521 * ((a % 65536 + -1) % 65521) = u at *
    generalize max n 0 * (a % 65536 + -1) = v at *
    exact whole_congr (by omega) (by omega)
  rw [e]
  exact Ev.now _
theorem joined_bd (a b n : Int) : 0 ≤ joined a b n ∧ joined a b n < 4294967296 := whole_bd _ _

/-- The sums of two parts, joined. -/
theorem joined_sums (a b : List Int) (n : Int) (hn : n = b.length) : joined (sumOf a) (sumOf b) n = sumOf (a ++ b) := by
  subst hn
  unfold joined sumOf
  rw [whole_lo, whole_hi, whole_lo, whole_hi, wsum_append, List.sum_append, List.length_append, show max (b.length : Int) 0 = b.length by omega]
  refine whole_congr (by omega) ?_
  have e1 : ((b.length : Int) * ((1 + a.sum) % 65521 - 1)) % 65521 = ((b.length : Int) * a.sum) % 65521 := by
    rw [Int.mul_emod, show ((1 + a.sum) % 65521 - 1) % 65521 = a.sum % 65521 by omega, ← Int.mul_emod]
  rw [Int.natCast_add]
  generalize (b.length : Int) * ((1 + a.sum) % 65521 - 1) = u at *
  generalize (b.length : Int) * a.sum = v at *
  omega
theorem sumOf_bd (l : List Int) : 0 ≤ sumOf l ∧ sumOf l < 4294967296 := whole_bd _ _

/-- A sum without its first byte. -/
def dropped (a c n : Int) : Int := whole (a % 65536 - c) (a / 65536 - 1 - (max n 0 + 1) * c)
theorem drop_ev {a c n : Int} (ha0 : 0 ≤ a) (ha1 : a < 4294967296) (hc0 : 0 ≤ c) (hc1 : c < 256) : Ev (fun k => adler_Drop.f k a c n) (dropped a c n) := by
  unfold adler_Drop.f
  rw [of_eq ha0 ha1]
  simp only [Option.bind_some]
  refine Ev.bind (modulo2 _ _) (Ev.bind (modulo2 _ _) (Ev.bind (modulo3 _ _ _) (Ev.bind (parts_ev _ _) ?_)))
  have e : whole ((a % 65536 + wrap64 (-wrap64 c)) % 65521) ((a / 65536 + (-1 + wrap64 (-wrap64 ((mx n 0 + 1) % 65521 * wrap64 c)))) % 65521) = dropped a c n := by
    have hp : (mx n 0 + 1) % 65521 * c ≤ 65521 * 256 := Int.mul_le_mul (by omega) (by omega) (by omega) (by omega)
    have hq : 0 ≤ (mx n 0 + 1) % 65521 * c := Int.mul_nonneg (by omega) (by omega)
    have hm : ((mx n 0 + 1) % 65521 * c) % 65521 = ((mx n 0 + 1) * c) % 65521 := by
      rw [Int.mul_emod, Int.emod_emod_of_dvd _ (Int.dvd_refl _), ← Int.mul_emod]
    rw [wrap64_id (a := c) (by omega) (by omega), wrap64_id (a := -c) (by omega) (by omega), wrap64_id (a := (mx n 0 + 1) % 65521 * c) (by omega) (by omega), wrap64_id (a := -((mx n 0 + 1) % 65521 * c)) (by omega) (by omega)]
    rw [mx_max] at *
    unfold dropped
    generalize (max n 0 + 1) % 65521 * c = u at *
    generalize (max n 0 + 1) * c = v at *
    exact whole_congr (by omega) (by omega)
  rw [e]
  exact Ev.now _
theorem dropped_sum (c : Int) (l : List Int) (n : Int) (hn : n = l.length) : dropped (sumOf (c :: l)) c n = sumOf l := by
  subst hn
  unfold dropped sumOf
  rw [whole_lo, whole_hi, show max (l.length : Int) 0 = l.length by omega]
  simp only [List.sum_cons, wsum, List.length_cons]
  refine whole_congr (by omega) ?_
  rw [Int.natCast_add]
  generalize ((l.length : Int) + 1) * c = u
  omega

theorem may_ev {a : Int} (h0 : 0 ≤ a) (h1 : a < 4294967296) : Ev (fun k => adler_May.f k a) (decide (a % 65536 < 65521) && decide (a / 65536 < 65521)) := by
  unfold adler_May.f
  rw [of_eq h0 h1]
  simp only [Option.bind_some]
  refine Ev.bind (parts_ev _ _) ?_
  rw [of_eq (whole_bd _ _).1 (whole_bd _ _).2]
  simp only [Option.bind_some, whole_lo, whole_hi]
  have e : (a % 65536 == a % 65536 % 65521 && a / 65536 == a / 65536 % 65521) = (decide (a % 65536 < 65521) && decide (a / 65536 < 65521)) := by
    rw [Bool.eq_iff_iff]; simp; omega
  rw [e]
  exact Ev.now _
theorem u8_bd {l : List Int} (h : ∀ x ∈ l, (Lit.int .u8 x).wf = true) : ∀ c ∈ l, 0 ≤ c ∧ c < 256 := by
  intro c hc
  have := h c hc
  simp [Lit.wf, IntKind.min, IntKind.max, IntKind.signed, IntKind.bits] at this
  omega
end Go.Proofs.Ytbkfnhkgfagelaa.Pure

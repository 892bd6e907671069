/- Proved: the joined sum of any two sums, and any sum without a byte, are what the reference says. No condition. -/
import Derived.Test.YtbkfnhkgfagelaaAdlerAux
namespace Go.Proofs.Ytbkfnhkgfagelaa.Pure
open Go.RowKit Go.Proofs.Ytbkfnhkgfagelaa.PAll Go.Proofs.YtbkfnhkgfagelaaW.PrintWords Go.Proofs.YtbkfnhkgfagelaaW.PrintLast

theorem ref_modulo {a : Int} : colloquyref02_modulo.f a = some (a % 65521) := by
  unfold colloquyref02_modulo.f
  obtain ⟨q, hq, hq1, hq2⟩ := tm a
  generalize a.tmod 65521 = m at *
  by_cases h : m < 0
  · rw [if_pos h, wrap64_id (by omega) (by omega)]; congr 1; omega
  · rw [if_neg h]; congr 1; omega
theorem ref_whole {x y : Int} : colloquyref02_whole.f x y = some (whole x y) := by
  unfold colloquyref02_whole.f
  rw [ref_modulo, ref_modulo]
  simp only [Option.bind_some]
  rw [wrap64_id (a := y % 65521 * 65536) (by omega) (by omega), wrap64_id (by omega) (by omega)]
  unfold whole
  congr 1; omega
theorem lo_eq {a : Int} (h0 : 0 ≤ a) : wrap64 (Int.tmod a 65536) = a % 65536 := by
  rw [Int.tmod_eq_emod_of_nonneg h0, wrap64_id (by omega) (by omega)]
theorem hi_eq {a : Int} (h0 : 0 ≤ a) (h1 : a < 4294967296) : (Int.tdiv a 65536) % 4294967296 = a / 65536 := by
  rw [Int.tdiv_eq_ediv_of_nonneg h0]; omega
theorem prod_bd (u v : Int) : 0 ≤ u % 65521 * (v % 65521) ∧ u % 65521 * (v % 65521) ≤ 65521 * 65521 :=
  ⟨Int.mul_nonneg (by omega) (by omega), Int.mul_le_mul (by omega) (by omega) (by omega) (by omega)⟩
theorem ref_join_one {a b m : Int} (ha0 : 0 ≤ a) (ha1 : a < 4294967296) (hb0 : 0 ≤ b) (hb1 : b < 4294967296) :
    ((colloquyref02_modulo.f m).bind fun t243 => ((colloquyref02_modulo.f (wrap64 ((wrap64 (Int.tmod a 65536)) - 1))).bind fun t244 => ((colloquyref02_whole.f (wrap64 ((wrap64 ((wrap64 (Int.tmod a 65536)) + (wrap64 (Int.tmod b 65536)))) - 1)) (wrap64 ((((Int.tdiv a 65536) % 4294967296) + ((Int.tdiv b 65536) % 4294967296)) + (wrap64 (t243 * t244))))).bind fun t245 => (some t245))))
      = some (whole (a % 65536 + b % 65536 - 1) (a / 65536 + b / 65536 + m * (a % 65536 - 1))) := by
  rw [lo_eq ha0, lo_eq hb0, hi_eq ha0 ha1, hi_eq hb0 hb1, wrap64_id (a := a % 65536 - 1) (by omega) (by omega), wrap64_id (a := a % 65536 + b % 65536) (by omega) (by omega), wrap64_id (a := a % 65536 + b % 65536 - 1) (by omega) (by omega)]
  simp only [ref_modulo, ref_whole, Option.bind_some]
  have hb := prod_bd m (a % 65536 - 1)
  have hm : (m % 65521 * ((a % 65536 - 1) % 65521)) % 65521 = (m * (a % 65536 - 1)) % 65521 := (Int.mul_emod _ _ _).symm
  generalize m % 65521 * ((a % 65536 - 1) % 65521) = u at *
  generalize m * (a % 65536 - 1) = v at *
  rw [wrap64_id (a := u) (by omega) (by omega), wrap64_id (by omega) (by omega)]
  exact congrArg some (whole_congr rfl (by omega))
theorem ref_join {a b n : Int} (ha0 : 0 ≤ a) (ha1 : a < 4294967296) (hb0 : 0 ≤ b) (hb1 : b < 4294967296) : colloquyref02_Join.f a b n = some (joined a b n) := by
  unfold colloquyref02_Join.f joined
  by_cases h : n < 0
  · rw [if_pos h, ref_join_one ha0 ha1 hb0 hb1, show max n 0 = 0 by omega]
  · rw [if_neg h, ref_join_one ha0 ha1 hb0 hb1, show max n 0 = n by omega]
theorem ref_drop_one {a c m : Int} (ha0 : 0 ≤ a) (ha1 : a < 4294967296) (hc0 : 0 ≤ c) (hc1 : c < 256) :
    ((colloquyref02_modulo.f m).bind fun t249 => ((colloquyref02_modulo.f (wrap64 (t249 + 1))).bind fun t250 => ((colloquyref02_whole.f (wrap64 ((wrap64 (Int.tmod a 65536)) - (wrap64 (c)))) (wrap64 ((((Int.tdiv a 65536) % 4294967296) - 1) - (wrap64 (t250 * (wrap64 (c))))))).bind fun t251 => (some t251))))
      = some (whole (a % 65536 - c) (a / 65536 - 1 - (m + 1) * c)) := by
  rw [lo_eq ha0, hi_eq ha0 ha1, wrap64_id (a := c) (by omega) (by omega), wrap64_id (a := a % 65536 - c) (by omega) (by omega)]
  simp only [ref_modulo, ref_whole, Option.bind_some]
  rw [wrap64_id (a := m % 65521 + 1) (by omega) (by omega)]
  have hp : (m % 65521 + 1) % 65521 * c ≤ 65521 * 256 := Int.mul_le_mul (by omega) (by omega) (by omega) (by omega)
  have hq : 0 ≤ (m % 65521 + 1) % 65521 * c := Int.mul_nonneg (by omega) (by omega)
  have hm : ((m % 65521 + 1) % 65521 * c) % 65521 = ((m + 1) * c) % 65521 := by
    rw [Int.mul_emod, Int.emod_emod_of_dvd _ (Int.dvd_refl _), Int.emod_add_emod, ← Int.mul_emod]
  generalize (m % 65521 + 1) % 65521 * c = u at *
  generalize (m + 1) * c = v at *
  rw [wrap64_id (a := u) (by omega) (by omega), wrap64_id (by omega) (by omega)]
  exact congrArg some (whole_congr rfl (by omega))
theorem ref_drop {a c n : Int} (ha0 : 0 ≤ a) (ha1 : a < 4294967296) (hc0 : 0 ≤ c) (hc1 : c < 256) : colloquyref02_Drop.f a c n = some (dropped a c n) := by
  unfold colloquyref02_Drop.f dropped
  by_cases h : n < 0
  · rw [if_pos h, ref_drop_one ha0 ha1 hc0 hc1, show max n 0 = 0 by omega]
  · rw [if_neg h, ref_drop_one ha0 ha1 hc0 hc1, show max n 0 = n by omega]
theorem u32_bd {a : Int} (h : (Lit.int .u32 a).wf = true) : 0 ≤ a ∧ a < 4294967296 := by
  simp [Lit.wf, IntKind.min, IntKind.max, IntKind.signed, IntKind.bits] at h; omega
theorem one_u8 {a : Int} (h : (Lit.int .u8 a).wf = true) : 0 ≤ a ∧ a < 256 := by
  simp [Lit.wf, IntKind.min, IntKind.max, IntKind.signed, IntKind.bits] at h; omega

theorem AdlerTells : colloquylaw02_AdlerTells.Pure := by
  intro a b n c ha hb _ hc
  have ha := u32_bd ha
  have hb := u32_bd hb
  have hc := one_u8 hc
  refine Ev.rounds (Ev.bind awake_ev ?_)
  rw [ref_join ha.1 ha.2 hb.1 hb.2, ref_drop ha.1 ha.2 hc.1 hc.2]
  simp only [if_true, Option.bind_some]
  refine Ev.bind (join_ev ha.1 ha.2 hb.1 hb.2) ?_
  simp only [if_true]
  refine Ev.bind (drop_ev ha.1 ha.2 hc.1 hc.2) ?_
  simp only [BEq.rfl]
  exact Ev.now _
end Go.Proofs.Ytbkfnhkgfagelaa.Pure

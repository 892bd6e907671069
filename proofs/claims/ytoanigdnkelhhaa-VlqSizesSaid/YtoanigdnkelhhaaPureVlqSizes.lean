/- Proved: a number has one byte more for each power of 128 that it reaches; all bytes but the last one are 128 or more, the last one is not. No condition. -/
import Derived.Test.YtoanigdnkelhhaaVlqAwake
namespace Go.Proofs.Ytoanigdnkelhhaa.Pure
open Go.RowKit Go.Proofs.Ytoanigdnkelhhaa.PAll Go.Proofs.YtoanigdnkelhhaaW.PrintWords Go.Proofs.YtoanigdnkelhhaaW.PrintLast Go.Proofs.YtoanigdnkelhhaaW.PrintMore
theorem shl_one {s : Nat} (hs : 1 ≤ s) (h8 : s ≤ 8) : shl .i64 1 (IntKind.u64.wrap (wrap64 (7 * (s : Int)))) = ((2 ^ (7 * s) : Nat) : Int) := by
  obtain rfl | rfl | rfl | rfl | rfl | rfl | rfl | rfl : s = 1 ∨ s = 2 ∨ s = 3 ∨ s = 4 ∨ s = 5 ∨ s = 6 ∨ s = 7 ∨ s = 8 := by omega
  all_goals decide +kernel
theorem shl_two {s : Nat} (hs : 2 ≤ s) (h8 : s ≤ 8) : shl .i64 1 (IntKind.u64.wrap (wrap64 ((wrap64 (7 * (s : Int))) - 7))) = ((2 ^ (7 * (s - 1)) : Nat) : Int) := by
  obtain rfl | rfl | rfl | rfl | rfl | rfl | rfl : s = 2 ∨ s = 3 ∨ s = 4 ∨ s = 5 ∨ s = 6 ∨ s = 7 ∨ s = 8 := by omega
  all_goals decide +kernel
theorem nonneg_u64 (x : Int) : 0 ≤ IntKind.u64.wrap x := by
  have : IntKind.u64.wrap x = x % 18446744073709551616 := by simp [IntKind.wrap, IntKind.bits, IntKind.signed]
  rw [this]; omega
theorem enc_marks {n i : Nat} (hi' : i < (enc n).length) : (enc n).getD i 0 < 128 ↔ i = (enc n).length - 1 := by
  by_cases h : n < 128
  · rw [enc_lt h] at hi' ⊢
    have : i = 0 := by simpa using hi'
    subst this
    simp; omega
  · rw [enc_ge h] at hi' ⊢
    by_cases hl : i < (hi (n / 128)).length
    · have hb := hi_bytes (n / 128) ((hi (n / 128)).getD i 0) (by rw [getD_lt hl]; exact List.getElem_mem hl)
      have e : (hi (n / 128) ++ [((n % 128 : Nat) : Int)]).getD i 0 = (hi (n / 128)).getD i 0 := by
        rw [List.getD_eq_getElem?_getD, List.getElem?_append_left hl, ← List.getD_eq_getElem?_getD]
      rw [e, List.length_append]
      simp only [List.length_cons, List.length_nil]
      omega
    · have he : i = (hi (n / 128)).length := by rw [List.length_append] at hi'; simp at hi'; omega
      subst he
      have e : (hi (n / 128) ++ [((n % 128 : Nat) : Int)]).getD (hi (n / 128)).length 0 = ((n % 128 : Nat) : Int) := by
        simp
      rw [e, List.length_append]
      simp only [List.length_cons, List.length_nil]
      omega
theorem VlqSizes : colloquylaw01_VlqSizes.Pure := by
  intro a _
  refine Ev.rounds (Ev.bind awake_ev (Ev.bind (put_ev a) ?_))
  simp only [if_true]
  by_cases ka : Ok a
  · obtain ⟨n, rfl⟩ := Int.eq_ofNat_of_zero_le ka.1
    have hn : n < 72057594037927936 := by have := ka.2; omega
    have h8 := sz_le8 hn
    have hp := sz_pos n
    rw [putOf_ok ka, Int.toNat_natCast]
    have e0 : (((enc n).length : Int) == 0) = false := by rw [enc_length, beq_eq_false_iff_ne]; omega
    rw [e0]
    refine Ev.step (fun k => by rw [colloquylaw01_VlqSizes.j0, if_neg (by decide)]) ?_
    have loop : ∀ (d i : Nat), (enc n).length - i = d → i ≤ (enc n).length → Ev (fun k => colloquylaw01_VlqSizes.l0 k (n : Int) (enc n) (i : Int)) true := by
      intro d
      induction d with
      | zero =>
        intro i hd hi
        refine Ev.step (fun k => by rw [colloquylaw01_VlqSizes.l0, if_neg (by omega)]) ?_
        refine Ev.bind (size_ev hn) ?_
        have hb := sz_bound n
        have s1 := shl_one hp h8
        simp only [enc_length, if_true]
        have z1 := nonneg_u64 (wrap64 (7 * (sz n : Int)))
        have lt : decide ((n : Int) < shl .i64 1 (IntKind.u64.wrap (wrap64 (7 * (sz n : Int))))) = true := by
          rw [s1]; exact decide_eq_true (by exact_mod_cast hb.1)
        simp only [if_pos z1, lt]
        by_cases h1 : (sz n : Int) = 1
        · simp only [if_pos h1]; exact Ev.now _
        · have s2 := shl_two (by omega) h8
          have z2 := nonneg_u64 (wrap64 ((wrap64 (7 * (sz n : Int))) - 7))
          have ge : (n : Int) ≥ shl .i64 1 (IntKind.u64.wrap (wrap64 ((wrap64 (7 * (sz n : Int))) - 7))) := by
            rw [s2]; exact_mod_cast hb.2 (by omega)
          simp only [if_neg h1, if_pos z2, if_pos ge]
          exact Ev.now _
      | succ d ih =>
        intro i hd hi
        have hlt : i < (enc n).length := by omega
        have hm := enc_marks hlt
        have hL : (enc n).length ≤ 8 := by rw [enc_length]; exact h8
        have w1 : wrap64 (((enc n).length : Int) - 1) = (((enc n).length - 1 : Nat) : Int) := by rw [wrap64_id (by omega) (by omega)]; omega
        have e4 : wrap64 ((i : Int) + 1) = ((i + 1 : Nat) : Int) := idx_step (by omega)
        have er : rd (enc n) (i : Int) = (enc n).getD i 0 := by unfold rd; rw [Int.toNat_natCast]
        have t : ((decide (rd (enc n) (i : Int) < 128)) != ((i : Int) == (((enc n).length - 1 : Nat) : Int))) = false := by
          rw [er]
          by_cases c : (enc n).getD i 0 < 128
          · have := hm.1 c
            rw [decide_eq_true c, beq_iff_eq.mpr (by omega)]; rfl
          · have : ¬ i = (enc n).length - 1 := fun z => c (hm.2 z)
            rw [decide_eq_false c, beq_eq_false_iff_ne.mpr (by omega)]; rfl
        refine Ev.step (fun k => ?_) (ih (i + 1) (by omega) (by omega))
        rw [colloquylaw01_VlqSizes.l0, if_pos (by omega), if_pos (by omega), w1]
        rw [t, if_neg (by decide), e4]
    exact loop (enc n).length 0 (by omega) (by omega)
  · rw [putOf_no ka]
    refine Ev.step (f := fun k => (vlq_Size.f k a).bind fun t => some (t == 0)) (fun k => by
      have e0 : ((([] : List Int).length : Int) == 0) = true := rfl
      rw [e0, colloquylaw01_VlqSizes.j0, if_pos rfl, if_pos rfl]) ?_
    refine Ev.bind (size_no ka) ?_
    exact Ev.now _
end Go.Proofs.Ytoanigdnkelhhaa.Pure

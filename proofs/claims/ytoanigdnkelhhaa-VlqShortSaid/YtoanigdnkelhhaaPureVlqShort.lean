/- Proved: bytes of a number without their last ones are told to lack some. No condition. -/
import Derived.Test.YtoanigdnkelhhaaVlqAwake
namespace Go.Proofs.Ytoanigdnkelhhaa.Pure
open Go.RowKit Go.Proofs.Ytoanigdnkelhhaa.PAll Go.Proofs.YtoanigdnkelhhaaW.PrintWords Go.Proofs.YtoanigdnkelhhaaW.PrintLast Go.Proofs.YtoanigdnkelhhaaW.PrintMore
theorem VlqShort : colloquylaw01_VlqShort.Pure := by
  intro a c _ _
  refine Ev.rounds (Ev.bind awake_ev (Ev.bind (put_ev a) ?_))
  simp only [if_true]
  by_cases hk : Ok a
  · obtain ⟨n, rfl⟩ := Int.eq_ofNat_of_zero_le hk.1
    have hn : n < 72057594037927936 := by have := hk.2; omega
    rw [putOf_ok hk, Int.toNat_natCast]
    simp only [if_true]
    by_cases h0 : c < 0
    · simp only [if_pos h0]; exact Ev.now _
    simp only [if_neg h0]
    by_cases h1 : c ≥ ((enc n).length : Int)
    · simp only [if_pos h1]; exact Ev.now _
    simp only [if_neg h1]
    obtain ⟨m, rfl⟩ := Int.eq_ofNat_of_zero_le (show 0 ≤ c by omega)
    have q1 : (0 : Int) ≤ (m : Int) := by omega
    have q2 : (m : Int) ≤ ((enc n).length : Int) := by omega
    simp only [if_pos q1, if_pos q2, Int.toNat_natCast]
    have h8 := sz_le8 hn
    refine Ev.bind (get_ev ((enc_bytes n).take m) (by rw [List.length_take, enc_length]; omega)) ?_
    rw [getOf_cut hn (by omega)]
    simp only [if_true, BEq.rfl]
    exact Ev.now _
  · rw [putOf_no hk]
    refine Ev.congr (fun k => if_neg (by decide)) (Ev.now _)
end Go.Proofs.Ytoanigdnkelhhaa.Pure

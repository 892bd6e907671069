/- Proved: bytes of a record without their last ones are told to lack some. Condition: none beyond the guard of the statement. -/
import Derived.Test.YtdkdgghonfoccaaPAllx6
import Derived.Test.YtdkdgghonfoccaaRecGet
namespace Go.Proofs.Ytdkdgghonfoccaa.Pure
open Go.RowKit Go.Proofs.Ytdkdgghonfoccaa.PAll Go.Proofs.YtdkdgghonfoccaaW.PrintWords Go.Proofs.YtdkdgghonfoccaaW.PrintLast Go.Proofs.YtdkdgghonfoccaaW.PrintMore
theorem RecordCuts (x : S24) (cut : Int) (h : (Lit.int .i64 x.f0).wf = true ∧ x.f1.length ≤ maxLen ∧ ∀ c ∈ x.f1, (Lit.int .u8 c).wf = true) (_ : (Lit.int .i64 cut).wf = true) : ∃ k, colloquylaw03_RecordCuts.f k x.f0 x.f1 cut = some true := by
  have hb := Bs.of h.2.2
  refine Ev.rounds (Ev.bind awake_ev ?_)
  refine Ev.bind (rput_ev hb) ?_
  simp only [if_true]
  by_cases c : (recOf x.f0 x.f1).2 = 0
  · simp only [if_pos c]
    obtain ⟨h0, h1, h2, e⟩ := recOf_zero c
    rw [e]
    simp only
    by_cases c1 : cut < 0
    · exact Ev.congr (fun k => if_pos c1) (Ev.now _)
    refine Ev.congr (fun k => if_neg c1) ?_
    by_cases c2 : cut ≥ ((frame x.f0.toNat x.f1).length : Int)
    · exact Ev.congr (fun k => if_pos c2) (Ev.now _)
    refine Ev.congr (fun k => if_neg c2) ?_
    refine Ev.congr (fun k => if_pos (by omega)) (Ev.congr (fun k => if_pos (by omega)) ?_)
    have hf := frame_bytes x.f0.toNat hb
    have hl := recOf_len x.f0 x.f1
    rw [e] at hl
    simp only at hl
    refine Ev.bind (rget_ev (hf.take _) (by rw [List.length_take]; omega)) ?_
    rw [rgetOf_cut (by omega) h2 (by omega)]
    simp only [if_true, BEq.rfl]
    exact Ev.now _
  · simp only [if_neg c]; exact Ev.now _
end Go.Proofs.Ytdkdgghonfoccaa.Pure

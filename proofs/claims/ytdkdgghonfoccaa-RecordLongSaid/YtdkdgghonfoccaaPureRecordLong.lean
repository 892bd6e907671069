/- Proved: a record has from six to nine bytes more than its body; its body stands at its end. Condition: none beyond the guard of the statement (more than 1200 bytes are let go). -/
import Derived.Test.YtdkdgghonfoccaaPAllx4
import Derived.Test.YtdkdgghonfoccaaRecCore
namespace Go.Proofs.Ytdkdgghonfoccaa.Pure
open Go.RowKit Go.Proofs.Ytdkdgghonfoccaa.PAll Go.Proofs.YtdkdgghonfoccaaW.PrintWords Go.Proofs.YtdkdgghonfoccaaW.PrintLast Go.Proofs.YtdkdgghonfoccaaW.PrintMore
theorem RecordLong (x : S24) (h : (Lit.int .i64 x.f0).wf = true ∧ x.f1.length ≤ maxLen ∧ ∀ c ∈ x.f1, (Lit.int .u8 c).wf = true) : ∃ k, colloquylaw03_RecordLong.f k x.f0 x.f1 = some true := by
  have hb := Bs.of h.2.2
  refine Ev.rounds (Ev.bind awake_ev ?_)
  simp only [if_true]
  by_cases g : (x.f1.length : Int) > 1200
  · rw [decide_eq_true g]
    exact Ev.step (f := fun _ => some true) (fun k => by rw [colloquylaw03_RecordLong.j0, if_pos rfl]) (Ev.now _)
  rw [decide_eq_false g]
  have hll : x.f1.length < 1099511627776 := by omega
  refine Ev.step (fun k => by rw [colloquylaw03_RecordLong.j0, if_neg (by decide)]) ?_
  refine Ev.bind (rput_ev hb) ?_
  by_cases c : (recOf x.f0 x.f1).2 = 0
  · refine Ev.congr (fun k => if_pos c) ?_
    obtain ⟨h0, h1, h2, e⟩ := recOf_zero c
    rw [e]
    have a1 := sz_kind (m := x.f0.toNat) (by omega)
    have a2 := sz_body h2
    have a3 := sz_pos x.f0.toNat
    have a4 := sz_pos x.f1.length
    have fl := frame_len x.f0.toNat x.f1
    have hn : wrap64 (((frame x.f0.toNat x.f1).length : Int) - (x.f1.length : Int)) = ((sz x.f0.toNat + sz x.f1.length + 4 : Nat) : Int) := by
      rw [wrap64_id (by omega) (by omega)]; omega
    simp only [hn]
    refine Ev.congr (fun k => if_pos (by omega)) (Ev.congr (fun k => if_pos (by omega)) (Ev.congr (fun k => if_pos (by omega)) (Ev.congr (fun k => if_pos (by omega)) ?_)))
    have ed : (frame x.f0.toNat x.f1).drop ((sz x.f0.toNat + sz x.f1.length + 4 : Nat) : Int).toNat = x.f1 := by
      rw [Int.toNat_natCast, frame, ← List.append_assoc, ← List.append_assoc]
      exact List.drop_left' (by simp only [List.length_append, enc_length, be4L_len])
    rw [ed, BEq.rfl]
    exact Ev.now _
  · refine Ev.congr (fun k => if_neg c) ?_
    rw [recOf_err c]
    exact Ev.now _
end Go.Proofs.Ytdkdgghonfoccaa.Pure

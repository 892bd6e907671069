/- Proved: what is got may be, and is put as just the same bytes. Condition: none beyond the guard of the statement (more than 2000 bytes are let go). -/
import Derived.Test.YthkipipfdlepnaaPAllx13
import Derived.Test.YthkipipfdlepnaaCmdGet
namespace Go.Proofs.Ythkipipfdlepnaa.Pure
open Go.RowKit Go.Proofs.Ythkipipfdlepnaa.PAll Go.Proofs.YthkipipfdlepnaaW.PrintWords Go.Proofs.YthkipipfdlepnaaW.PrintLast Go.Proofs.YthkipipfdlepnaaW.PrintMore
theorem CommandOnce : colloquylaw04_CommandOnce.Pure := by
  intro l _ hl hb
  have hb := Bs.of hb
  refine Ev.rounds (Ev.bind awake_ev ?_)
  simp only [if_true]
  by_cases g : (l.length : Int) > 2000
  · rw [decide_eq_true g]
    exact Ev.step (f := fun _ => some true) (fun k => by rw [colloquylaw04_CommandOnce.j0, if_pos rfl]) (Ev.now _)
  rw [decide_eq_false g]
  have hll : l.length < 1099511627776 := by omega
  refine Ev.step (fun k => by rw [colloquylaw04_CommandOnce.j0, if_neg (by decide)]) ?_
  refine Ev.bind (cget_ev hb hll) ?_
  rcases getC_all hb with ⟨e, he, h⟩ | ⟨u, q, d, h, n, t, hm, h1, h2⟩
  · rw [h]
    exact Ev.congr (f := fun _ => some true) (fun k => by rw [if_neg (show ¬ (zeroG e).2.2.2.2.2.2 = 0 from he)]; simp only [zeroG, ByteArray.toList_eq]; rfl) (Ev.now _)
  · rw [h2]
    simp only [if_true]
    refine Ev.bind (cput_ev u q d h n t) ?_
    rw [putC, if_pos hm, bytesC_eq, ← h1]
    simp only [if_true, may_eq, Option.bind_some, hm]
    exact Ev.now _
end Go.Proofs.Ythkipipfdlepnaa.Pure

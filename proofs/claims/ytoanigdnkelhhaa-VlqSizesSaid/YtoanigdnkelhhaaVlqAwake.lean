/- Plain laws of layer 1: the chapter's examples hold. -/
import Derived.Test.YtoanigdnkelhhaaVlqGet
namespace Go.Proofs.Ytoanigdnkelhhaa.Pure
open Go.RowKit Go.Proofs.Ytoanigdnkelhhaa.PAll Go.Proofs.YtoanigdnkelhhaaW.PrintWords Go.Proofs.YtoanigdnkelhhaaW.PrintLast Go.Proofs.YtoanigdnkelhhaaW.PrintMore
theorem awake_ev : Ev (fun k => colloquylaw01_awake.f k) true := by
  have h1 : putOf 300 = ([130, 44], 0) := by
    rw [putOf_ok ⟨by decide, by decide⟩, show (300 : Int).toNat = 300 by decide, enc_ge (by decide), show 300 / 128 = 2 by decide, hi_lt (by decide)]
    rfl
  have h2 : getOf [129, 0] = (128, 2, 0) := by decide
  have hb : Bs [129, 0] := Bs.cons (by decide) (Bs.cons (by decide) Bs.nil)
  refine Ev.bind (put_ev 300) (Ev.bind (get_ev hb (by decide)) ?_)
  rw [h1, h2]
  have e : (strOfNums [130, 44]).toList = ([130, 44] : List UInt8) := by
    rw [ByteArray.toList_eq]; rfl
  simp only [if_true, if_pos e, BEq.rfl]
  exact Ev.now _
end Go.Proofs.Ytoanigdnkelhhaa.Pure

/- Plain law: where Get reads a number. -/
import Derived.Test.YthkipipfdlepnaaVlqGet
namespace Go.Proofs.Ythkipipfdlepnaa.Pure
open Go.RowKit Go.Proofs.Ythkipipfdlepnaa.PAll Go.Proofs.YthkipipfdlepnaaW.PrintWords Go.Proofs.YthkipipfdlepnaaW.PrintLast Go.Proofs.YthkipipfdlepnaaW.PrintMore
theorem getOf_pos {b : List Int} (hb : Bs b) (h : (getOf b).2.2 = 0) : ∃ m : Nat, m < 72057594037927936 ∧ getOf b = ((m : Int), (sz m : Int), 0) ∧ 1 ≤ sz m ∧ sz m ≤ b.length ∧ b.take (sz m) = enc m := by
  have e : getOf b = ((getOf b).1, (getOf b).2.1, 0) := by
    have : getOf b = ((getOf b).1, (getOf b).2.1, (getOf b).2.2) := rfl
    rw [h] at this; exact this
  obtain ⟨m, h1, h2, h3, h4, h5⟩ := getOf_back hb e
  refine ⟨m, h2, ?_, sz_pos m, h4, h5⟩
  rw [h1, h3] at e; exact e
end Go.Proofs.Ythkipipfdlepnaa.Pure

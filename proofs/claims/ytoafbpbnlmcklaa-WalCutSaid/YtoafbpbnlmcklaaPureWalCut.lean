/- Proved: where one sector's mark becomes nought, the records ahead of its own are there, and no others. Condition: none beyond the guards of the statement. -/
import Derived.Test.YtoafbpbnlmcklaaWalCutW
namespace Go.Proofs.Ytoafbpbnlmcklaa.Pure
open Go.RowKit Go.Proofs.Ytoafbpbnlmcklaa.PAll Go.Proofs.YtoafbpbnlmcklaaW.PrintWords Go.Proofs.YtoafbpbnlmcklaaW.PrintLast Go.Proofs.YtoafbpbnlmcklaaW.PrintMore
theorem WalCut (a0 : Int) (l1 : List (List Int)) (a2 : Int) {p q : Prop} (_ : p) (hg : ∀ c0 ∈ l1, (c0.length ≤ maxLen ∧ ∀ c1 ∈ c0, (Lit.int .u8 c1).wf = true)) (_ : q) : ∃ _ : Nat, colloquylaw20_WalCut.f a0 l1 a2 = some true :=
  ⟨0, if_pos (okBs_iff.2 (fun b hb => Bs.of (hg b hb).2))⟩
end Go.Proofs.Ytoafbpbnlmcklaa.Pure

/- Proved: WalAgain of any rows of bytes. Condition: none beyond the guards of the statement. -/
import Derived.Test.YtoafbpbnlmcklaaWalAgainW
namespace Go.Proofs.Ytoafbpbnlmcklaa.Pure
open Go.RowKit Go.Proofs.Ytoafbpbnlmcklaa.PAll Go.Proofs.YtoafbpbnlmcklaaW.PrintWords Go.Proofs.YtoafbpbnlmcklaaW.PrintLast Go.Proofs.YtoafbpbnlmcklaaW.PrintMore
theorem WalAgain (a0 : Int) (l1 : List (List Int)) {p : Prop} (_ : p) (hg : ∀ c0 ∈ l1, (c0.length ≤ maxLen ∧ ∀ c1 ∈ c0, (Lit.int .u8 c1).wf = true)) : ∃ _ : Nat, colloquylaw20_WalAgain.f a0 l1 = some true :=
  ⟨0, if_pos (okBs_iff.2 (fun b hb => Bs.of (hg b hb).2))⟩
end Go.Proofs.Ytoafbpbnlmcklaa.Pure

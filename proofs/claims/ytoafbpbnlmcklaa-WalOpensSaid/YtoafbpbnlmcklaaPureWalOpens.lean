/- Proved: of a disk with any bytes the records are what the document says, and noughts stand behind them. Condition: none beyond the guards of the statement. -/
import Derived.Test.YtoafbpbnlmcklaaWalOpensW
namespace Go.Proofs.Ytoafbpbnlmcklaa.Pure
open Go.RowKit Go.Proofs.Ytoafbpbnlmcklaa.PAll Go.Proofs.YtoafbpbnlmcklaaW.PrintWords Go.Proofs.YtoafbpbnlmcklaaW.PrintLast Go.Proofs.YtoafbpbnlmcklaaW.PrintMore
theorem WalOpens (a0 : Int) (l1 : List S42) {p : Prop} (_ : p) (hg : ∀ o ∈ l1, (Lit.int .i64 o.f0).wf = true ∧ (o.f1.length ≤ maxLen ∧ ∀ c0 ∈ o.f1, (Lit.int .u8 c0).wf = true)) : ∃ _ : Nat, colloquylaw20_WalOpens.f a0 l1 = some true :=
  ⟨0, if_pos (okT_iff.2 (fun o ho => Bs.of (hg o ho).2.2))⟩
end Go.Proofs.Ytoafbpbnlmcklaa.Pure

/- Proved: what any ops answer, which records there are, how many sectors they have, and how much room is left, is what the document says. Condition: none beyond the guards of the statement. -/
import Derived.Test.YtoafbpbnlmcklaaWalDoesW
namespace Go.Proofs.Ytoafbpbnlmcklaa.Pure
open Go.RowKit Go.Proofs.Ytoafbpbnlmcklaa.PAll Go.Proofs.YtoafbpbnlmcklaaW.PrintWords Go.Proofs.YtoafbpbnlmcklaaW.PrintLast Go.Proofs.YtoafbpbnlmcklaaW.PrintMore
theorem WalDoes (a0 : Int) (l1 : List S56) {p : Prop} (_ : p) (hg : ∀ o ∈ l1, (Lit.int .i64 o.f0).wf = true ∧ (o.f1.length ≤ maxLen ∧ ∀ c0 ∈ o.f1, (Lit.int .u8 c0).wf = true) ∧ (o.f2.length ≤ maxLen ∧ ∀ c0 ∈ o.f2, True) ∧ (Lit.int .i64 o.f3).wf = true ∧ (Lit.int .i64 o.f4).wf = true) : ∃ _ : Nat, colloquylaw20_WalDoes.f a0 l1 = some true :=
  ⟨0, if_pos (okO_iff.2 (fun o ho => Bs.of (hg o ho).2.1.2))⟩
end Go.Proofs.Ytoafbpbnlmcklaa.Pure

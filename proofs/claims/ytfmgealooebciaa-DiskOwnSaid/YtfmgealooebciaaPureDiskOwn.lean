/- Proved: what is read, or was written, may be changed: the disk stays as it is. Condition: none beyond the guard of the statement (sectors of 16 bytes). -/
import Derived.Test.YtfmgealooebciaaDiskOwnW
namespace Go.Proofs.Ytfmgealooebciaa.Pure
open Go.RowKit Go.Proofs.Ytfmgealooebciaa.PAll Go.Proofs.YtfmgealooebciaaW.PrintWords Go.Proofs.YtfmgealooebciaaW.PrintLast Go.Proofs.YtfmgealooebciaaW.PrintMore
theorem DiskOwn (l0 : List Int) (a1 : Int) (_ : ∀ c ∈ l0, (Lit.int .u8 c).wf = true) (_ : (Lit.int .u8 a1).wf = true) : ∃ _ : Nat, colloquylaw19_DiskOwn.f l0 a1 = some true := ⟨0, rfl⟩
end Go.Proofs.Ytfmgealooebciaa.Pure

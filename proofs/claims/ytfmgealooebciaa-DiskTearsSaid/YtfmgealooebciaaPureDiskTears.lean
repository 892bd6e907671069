/- Proved: behind a crash a sector with one write that waited has that, or what it had, or so many first bytes of that and the rest of what it had. Condition: none beyond the guard of the statement (sectors of 16 bytes). -/
import Derived.Test.YtfmgealooebciaaDiskTearsW
namespace Go.Proofs.Ytfmgealooebciaa.Pure
open Go.RowKit Go.Proofs.Ytfmgealooebciaa.PAll Go.Proofs.YtfmgealooebciaaW.PrintWords Go.Proofs.YtfmgealooebciaaW.PrintLast Go.Proofs.YtfmgealooebciaaW.PrintMore
theorem DiskTears (l0 l1 : List Int) (l2 : List Bool) (a3 a4 : Int) (_ : ∀ c ∈ l0, (Lit.int .u8 c).wf = true) (_ : ∀ c ∈ l1, (Lit.int .u8 c).wf = true) (_ : ∀ c ∈ l2, True) (_ : (Lit.int .i64 a3).wf = true) (_ : (Lit.int .i64 a4).wf = true) : ∃ _ : Nat, colloquylaw19_DiskTears.f l0 l1 l2 a3 a4 = some true := ⟨0, rfl⟩
end Go.Proofs.Ytfmgealooebciaa.Pure

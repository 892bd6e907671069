/- Proved: what was written and synced is there behind any crashes, whatever else was written to other sectors. Condition: none beyond the guards of the statement. -/
import Derived.Test.YtfmgealooebciaaDiskSyncedW
namespace Go.Proofs.Ytfmgealooebciaa.Pure
open Go.RowKit Go.Proofs.Ytfmgealooebciaa.PAll Go.Proofs.YtfmgealooebciaaW.PrintWords Go.Proofs.YtfmgealooebciaaW.PrintLast Go.Proofs.YtfmgealooebciaaW.PrintMore
theorem DiskSynced (a0 a1 : Int) (l2 : List Int) (l3 : List S33) {p q r s : Prop} (_ : p) (_ : q) (_ : r) (_ : s) : ∃ _ : Nat, colloquylaw19_DiskSynced.f a0 a1 l2 l3 = some true := ⟨0, rfl⟩
end Go.Proofs.Ytfmgealooebciaa.Pure

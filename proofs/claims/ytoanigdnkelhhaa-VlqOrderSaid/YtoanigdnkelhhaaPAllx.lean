/- The machine's side of this claim, written by a program of this session out of the translation: for each Go function a Lean function of its answers, and the proof that the code comes to just these. Conditions: those that each theorem states. -/
import Derived.Test.YtoanigdnkelhhaaPAllx0
import Derived.Test.YtoanigdnkelhhaaPAllx1
import Derived.Test.YtoanigdnkelhhaaPAllx2
import Derived.Test.YtoanigdnkelhhaaPAllx3
import Derived.Test.YtoanigdnkelhhaaPAllx4
import Derived.Test.YtoanigdnkelhhaaPAllx5
import Derived.Test.YtoanigdnkelhhaaPAllx6
namespace Go.Proofs.Ytoanigdnkelhhaa.PAll
open Go.RowKit Go.Proofs.YtoanigdnkelhhaaW.PrintWords Go.Proofs.YtoanigdnkelhhaaW.PrintLast Go.Proofs.YtoanigdnkelhhaaW.PrintMore
attribute [local go_sem] max2_int min2_int max_two min_two max_three min_three max_four min_four   -- for this text's walks alone
set_option linter.unusedVariables false
set_option linter.unusedSimpArgs false

end Go.Proofs.Ytoanigdnkelhhaa.PAll

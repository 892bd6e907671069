/- The machine's side of this claim, written by a program of this session out of the translation: for each Go function a Lean function of its answers, and the proof that the code comes to just these. Conditions: those that each theorem states. -/
import Derived.Test.YtbkfnhkgfagelaaPAllx0
import Derived.Test.YtbkfnhkgfagelaaPAllx1
import Derived.Test.YtbkfnhkgfagelaaPAllx2
import Derived.Test.YtbkfnhkgfagelaaPAllx3
import Derived.Test.YtbkfnhkgfagelaaPAllx4
import Derived.Test.YtbkfnhkgfagelaaPAllx5
import Derived.Test.YtbkfnhkgfagelaaPAllx6
import Derived.Test.YtbkfnhkgfagelaaPAllx7
import Derived.Test.YtbkfnhkgfagelaaPAllx8
namespace Go.Proofs.Ytbkfnhkgfagelaa.PAll
open Go.RowKit Go.Proofs.YtbkfnhkgfagelaaW.PrintWords Go.Proofs.YtbkfnhkgfagelaaW.PrintLast Go.Proofs.YtbkfnhkgfagelaaW.PrintMore
attribute [local go_sem] max2_int min2_int max_two min_two max_three min_three max_four min_four   -- for this text's walks alone
set_option linter.unusedVariables false
set_option linter.unusedSimpArgs false

end Go.Proofs.Ytbkfnhkgfagelaa.PAll

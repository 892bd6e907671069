/- The machine's side of this claim, written by a program of this session out of the translation: for each Go function a Lean function of its answers, and the proof that the code comes to just these. Conditions: those that each theorem states. -/
import Derived.Test.YtbkfnhkgfagelaaProg
import Derived.Below
import Derived.Deep.Draws
import Derived.Deep.AppendLies
import Derived.Maps.AppendAt
import Derived.OwnWalk
import Derived.Laws.BytesArg
import Derived.Laws.MakeOwn
import Derived.Laws.OwnMore
import Derived.Deep.OwnRows
import Derived.Tactics
import Derived.Lib.ConvBytes
import Derived.Laws.Slices
import Derived.WalkKit
import Derived.KernelRfl
import Derived.RowKit3
import Derived.Deep.LoopGhost
import Derived.Deep.QuietTactic
import Derived.BigQuiet
import Derived.WideLaws
import Derived.Deep.DeepCutAuto
import Derived.Deep.CutBlock
import Derived.Deep.RegionHeld3
import Derived.Laws.Rows
import Derived.Lib.AppendStr
import Derived.ArgAppend
import Derived.Laws.IdiomCopy
import Derived.OrdersHeld
import Derived.Laws.BitsLemmas
import Derived.RowKit
import Derived.Lib.SlBytesConst
import Derived.WalkLawsBesides
import Derived.WalkSpells
import Derived.Outline
import Derived.OneCell
import Derived.Laws.EntriesVeiled
import Derived.Test.YtbkfnhkgfagelaaWWords
import Derived.Test.YtbkfnhkgfagelaaWLast
import Derived.Test.YtbkfnhkgfagelaaWTab
import Derived.Test.YtbkfnhkgfagelaaWFour
import Derived.Test.YtbkfnhkgfagelaaWQPut
import Derived.Test.YtbkfnhkgfagelaaWApart
import Derived.Test.YtbkfnhkgfagelaaWArr
import Derived.Test.YtbkfnhkgfagelaaWZeros
import Derived.Test.YtbkfnhkgfagelaaWFoot
import Derived.Test.YtbkfnhkgfagelaaWKept
import Derived.Test.YtbkfnhkgfagelaaWShare
import Derived.Test.YtbkfnhkgfagelaaWN
import Derived.Test.YtbkfnhkgfagelaaWFootNe
import Derived.Test.YtbkfnhkgfagelaaWAt
import Derived.Test.YtbkfnhkgfagelaaWEqStruct
import Derived.Test.YtbkfnhkgfagelaaWRepsOne
import Derived.Test.YtbkfnhkgfagelaaWInv
import Derived.Test.YtbkfnhkgfagelaaWInvWords
import Derived.Test.YtbkfnhkgfagelaaWGuard
import Derived.Test.YtbkfnhkgfagelaaWNEv
import Derived.Test.YtbkfnhkgfagelaaWMore
namespace Go.Proofs.Ytbkfnhkgfagelaa.PAll
open Go.RowKit Go.Proofs.YtbkfnhkgfagelaaW.PrintWords Go.Proofs.YtbkfnhkgfagelaaW.PrintLast Go.Proofs.YtbkfnhkgfagelaaW.PrintMore
attribute [local go_sem] max2_int min2_int max_two min_two max_three min_three max_four min_four   -- for this text's walks alone
set_option linter.unusedVariables false
set_option linter.unusedSimpArgs false



def errW : Option Int → Value
  | none => .nilIface
  | some c => .iface 0 (.int .i64 c)
theorem errW_none : errW none = .nilIface := rfl
theorem errW_some (c : Int) : errW (some c) = .iface 0 (.int .i64 c) := rfl

theorem info3 : (Try.prog.info? 3).map (fun i => (i.zero, i.size, i.bytes)) = some (some (.int .i64 0), 1, 8) := by kernel_rfl
theorem info5 : (Try.prog.info? 5).map (fun i => (i.zero, i.size, i.bytes)) = some (some (.int .u8 0), 1, 1) := by kernel_rfl
-- the values' own types

end Go.Proofs.Ytbkfnhkgfagelaa.PAll

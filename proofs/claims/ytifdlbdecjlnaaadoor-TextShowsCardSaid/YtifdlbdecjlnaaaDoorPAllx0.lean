/- The machine's side of this claim, written by a program of this session out of the translation: for each Go function a Lean function of its answers, and the proof that the code comes to just these. Conditions: those that each theorem states. -/
import Derived.Test.YtifdlbdecjlnaaaDoorProg
import Derived.Below
import Derived.Deep.Draws
import Derived.Deep.AppendLies
import Derived.Maps.AppendAt
import Derived.OwnWalk
import Derived.Laws.BytesArg
import Derived.Laws.MakeOwn
import Derived.Laws.OwnMore
import Derived.Deep.OwnRows
import Derived.Tactics
import Derived.Lib.ConvBytes
import Derived.Laws.Slices
import Derived.WalkKit
import Derived.KernelRfl
import Derived.RowKit3
import Derived.Deep.LoopGhost
import Derived.Deep.QuietTactic
import Derived.BigQuiet
import Derived.WideLaws
import Derived.Deep.DeepCutAuto
import Derived.Deep.CutBlock
import Derived.Deep.RegionHeld3
import Derived.Laws.Rows
import Derived.Lib.AppendStr
import Derived.ArgAppend
import Derived.Laws.IdiomCopy
import Derived.OrdersHeld
import Derived.Laws.BitsLemmas
import Derived.RowKit
import Derived.Lib.SlBytesConst
import Derived.WalkLawsBesides
import Derived.WalkSpells
import Derived.Outline
import Derived.OneCell
import Derived.Laws.EntriesVeiled
import Derived.RegionTactic
import Derived.ChangeAlike
import Derived.Test.YtifdlbdecjlnaaaDoorWWords
import Derived.Test.YtifdlbdecjlnaaaDoorWLast
import Derived.Test.YtifdlbdecjlnaaaDoorWTab
import Derived.Test.YtifdlbdecjlnaaaDoorWFour
import Derived.Test.YtifdlbdecjlnaaaDoorWQPut
import Derived.Test.YtifdlbdecjlnaaaDoorWApart
import Derived.Test.YtifdlbdecjlnaaaDoorWArr
import Derived.Test.YtifdlbdecjlnaaaDoorWZeros
import Derived.Test.YtifdlbdecjlnaaaDoorWFoot
import Derived.Test.YtifdlbdecjlnaaaDoorWKept
import Derived.Test.YtifdlbdecjlnaaaDoorWShare
import Derived.Test.YtifdlbdecjlnaaaDoorWN
import Derived.Test.YtifdlbdecjlnaaaDoorWFootNe
import Derived.Test.YtifdlbdecjlnaaaDoorWAt
import Derived.Test.YtifdlbdecjlnaaaDoorWEqStruct
import Derived.Test.YtifdlbdecjlnaaaDoorWRepsOne
import Derived.Test.YtifdlbdecjlnaaaDoorWInv
import Derived.Test.YtifdlbdecjlnaaaDoorWInvWords
import Derived.Test.YtifdlbdecjlnaaaDoorWGuard
import Derived.Test.YtifdlbdecjlnaaaDoorWNEv
import Derived.Test.YtifdlbdecjlnaaaDoorWMore
namespace Go.Proofs.YtifdlbdecjlnaaaDoor.PAll
open Go.RowKit Go.Proofs.YtifdlbdecjlnaaaDoorW.PrintWords Go.Proofs.YtifdlbdecjlnaaaDoorW.PrintLast Go.Proofs.YtifdlbdecjlnaaaDoorW.PrintMore
attribute [local go_sem] max2_int min2_int max_two min_two max_three min_three max_four min_four   -- for this text's walks alone
set_option linter.unusedVariables false
set_option linter.unusedSimpArgs false



def errW : Option Int → Value
  | none => .nilIface
  | some c => .iface 0 (.int .i64 c)
theorem errW_none : errW none = .nilIface := rfl
theorem errW_some (c : Int) : errW (some c) = .iface 0 (.int .i64 c) := rfl

theorem info5 : (Tryd.prog.info? 5).map (fun i => (i.zero, i.size, i.bytes)) = some (some (.int .u8 0), 1, 1) := by kernel_rfl
theorem info9 : (Tryd.prog.info? 9).map (fun i => (i.zero, i.size, i.bytes)) = some (some (.string ⟨#[]⟩), 1, 16) := by kernel_rfl
-- the values' own types

end Go.Proofs.YtifdlbdecjlnaaaDoor.PAll

/- What the rows of the text layer list of the library's tables, and the row and the card of the law TextLong. Conditions: those that each theorem states. -/
import Derived.Test.YtifdlbdecjlnaaaDoorTie
import Derived.Test.YtifdlbdecjlnaaaDoorCards
import Derived.Test.YtifdlbdecjlnaaaDoorTxMay
import Derived.ProofKit
import Derived.Lay
import Derived.Lib.LaidU8T
import Derived.SevenTiedAt
import Derived.MakeChecks
namespace Go.Proofs.YtifdlbdecjlnaaaDoor.PAll
open Go.RowKit Go.ChangeShapes Go.WideShapes Go.ChangeAt
theorem own : ownKnob Tryd.prog.godebug = none := by kernel_rfl
theorem xU : U8Extra Tryd.prog Tryd.lays196_ren := ⟨by kernel_rfl, by kernel_rfl, by kernel_rfl, by kernel_rfl, by kernel_rfl, by kernel_rfl, by kernel_rfl⟩
set_option maxRecDepth 100000 in
theorem first_eq : (Go.Pinned.utf8First : DataW Unit) = Lib.firstData := by kernel_rfl
theorem accept_eq : (Rows.laid_unicode_utf8_acceptRanges : DataW Unit) = Lib.acceptData := by kernel_rfl
theorem tabs_of {W : World} (hL : laidMet Tryd.prog Rows.textLongRow.laid W) : Tabs W :=
  utf8Tabs_of_readsT (U8Types.of196 Tryd.lays196) xU (first_eq ▸ Lib.laidMet.reads hL (.tail _ (.tail _ (.tail _ (.tail _ (.tail _ (.tail _ (.head _)))))))) (accept_eq ▸ Lib.laidMet.reads hL (.tail _ (.tail _ (.tail _ (.head _)))))
end Go.Proofs.YtifdlbdecjlnaaaDoor.PAll

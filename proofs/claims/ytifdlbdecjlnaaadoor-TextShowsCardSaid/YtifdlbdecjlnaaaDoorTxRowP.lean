/- What the rows of the text layer list of the table of powers of ten. Conditions: those that each theorem states. -/
import Derived.Test.YtifdlbdecjlnaaaDoorTxRow
import Derived.Test.YtifdlbdecjlnaaaDoorTxShow
namespace Go.Proofs.YtifdlbdecjlnaaaDoor.PAll
open Go.RowKit Go.ChangeShapes Go.WideShapes Go.ChangeAt
theorem pow_eq : (Rows.laid_internal_strconv_uint64pow10 : DataW Unit) = Lib.tabData .u64 Lib.pow10Tab := by kernel_rfl
theorem pow_of {W : World} (hL : laidMet Tryd.prog Rows.textLongRow.laid W) : Pow W := by
  obtain ⟨g, t, cs, fuel, p, hg, hty, hvar, hd⟩ := pow_eq ▸ Lib.laidMet.reads hL (.tail _ (.tail _ (.head _)))
  obtain rfl : (5 : Nat) = g := Option.some.inj ((show Tryd.prog.globalNamed "internal/strconv.uint64pow10" = some 5 by kernel_rfl).symm.trans hg)
  obtain rfl : (110 : Nat) = t := Option.some.inj ((show (Tryd.prog.globals[5]?).map (·.type) = some 110 by kernel_rfl).symm.trans hty)
  unfold Pow Lib.TabIs
  rw [hvar]
  exact congrArg some (by rw [← Lib.cells_of_tab (show Tryd.prog.underlying 110 = some (.array 20 81) by kernel_rfl) (show Tryd.prog.underlying 81 = some (.int .u64) by kernel_rfl) (by kernel_rfl) (by kernel_rfl) hd])
end Go.Proofs.YtifdlbdecjlnaaaDoor.PAll

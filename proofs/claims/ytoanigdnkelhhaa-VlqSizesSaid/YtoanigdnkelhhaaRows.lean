/-
  No cell of these rows narrows 'for every input' (looked for: loops, veiled, ifaces, maps, wideKeys, modest, calm, conditions, laid).
  DERIVED. THE GIVEN ROWS OF THIS SEAT. 8 by the template 'for every input the law returns true; each argument reads behind the call as it read before'; 0 by the template 'total and deterministic' (their statements: YtoanigdnkelhhaaTotals.lean).
  GIVEN WITH THE SEED: the statements are not yours to turn. If you find one false, say at which input.
  Laid BY PROGRAM, IN A SANDBOX (cutbox-rows.mjs): the forced cells as the released guide's own fill.sh prints them over the translation c85d8121fe69e66a… (all of the seat's roots in one cut). By AI agents, Wed Nov 11 2026. No macro, syntax, notation, axiom, sorry.
-/
import Derived.Test.YtoanigdnkelhhaaChecked
import GoSem.Claim
import GoSem.ClaimJoined
import GoSem.ClaimMapViews
import Derived.JoinedTies
import Derived.KernelRfl
namespace Go.Proofs.Ytoanigdnkelhhaa
/- THE CELL 'sum', in the pinned program and in every row, IS THE sha256 OF THE DUMP (.gsa) THAT YtoanigdnkelhhaaProg.lean LOADS. Nothing in Lean hashes anything: it is a label: what it is worth is what the hold of that sum in a sandbox is worth. -/
noncomputable def Try.pinned : Pinned := { name := "ytoanigdnkelhhaa", sum := "c85d8121fe69e66af69a45618f50db368932018435ffec147e9ab43328952212", checked := Try.checked }
namespace Rows
def none {H : Type} : Left H := { results := [], args := [] }

/-- 'colloquylaw01.VlqOrder': WHATEVER THE INPUT: true; the input reads as it did. -/
def vlqOrderSpec : ChangeSpec := { name := "vlqOrder", fn := fun _ => fun
  | [d1, d2] => { results := [.lit (.bool true)], args := [d1, d2] }
  | _ => none }
def vlqOrderRow : OpenClaim := { program := "ytoanigdnkelhhaa", sum := "c85d8121fe69e66af69a45618f50db368932018435ffec147e9ab43328952212", func := "colloquy/colloquylaw01.VlqOrder", spec := "vlqOrder", unfollowed := true, recurses := true, apart := false }
def VlqOrderSaid : Prop := vlqOrderRow.holds Try.pinned (OpenSpec.ofChange vlqOrderSpec)

/-- ITS FALSE NEIGHBOUR: 'it returns false'. Refute it at one input. -/
def vlqOrderWrong : ChangeSpec := { name := "vlqOrder", fn := fun _ => fun
  | [d1, d2] => { results := [.lit (.bool false)], args := [d1, d2] }
  | _ => none }
def VlqOrderWrongFalsely : Prop := vlqOrderRow.holds Try.pinned (OpenSpec.ofChange vlqOrderWrong)

/-- 'colloquylaw01.VlqShort': WHATEVER THE INPUT: true; the input reads as it did. -/
def vlqShortSpec : ChangeSpec := { name := "vlqShort", fn := fun _ => fun
  | [d1, d2] => { results := [.lit (.bool true)], args := [d1, d2] }
  | _ => none }
def vlqShortRow : OpenClaim := { program := "ytoanigdnkelhhaa", sum := "c85d8121fe69e66af69a45618f50db368932018435ffec147e9ab43328952212", func := "colloquy/colloquylaw01.VlqShort", spec := "vlqShort", unfollowed := true, recurses := true, apart := false }
def VlqShortSaid : Prop := vlqShortRow.holds Try.pinned (OpenSpec.ofChange vlqShortSpec)

/-- ITS FALSE NEIGHBOUR: 'it returns false'. Refute it at one input. -/
def vlqShortWrong : ChangeSpec := { name := "vlqShort", fn := fun _ => fun
  | [d1, d2] => { results := [.lit (.bool false)], args := [d1, d2] }
  | _ => none }
def VlqShortWrongFalsely : Prop := vlqShortRow.holds Try.pinned (OpenSpec.ofChange vlqShortWrong)

/-- 'colloquylaw01.VlqSizes': WHATEVER THE INPUT: true; the input reads as it did. -/
def vlqSizesSpec : ChangeSpec := { name := "vlqSizes", fn := fun _ => fun
  | [d] => { results := [.lit (.bool true)], args := [d] }
  | _ => none }
def vlqSizesRow : OpenClaim := { program := "ytoanigdnkelhhaa", sum := "c85d8121fe69e66af69a45618f50db368932018435ffec147e9ab43328952212", func := "colloquy/colloquylaw01.VlqSizes", spec := "vlqSizes", unfollowed := true, recurses := true, apart := false }
def VlqSizesSaid : Prop := vlqSizesRow.holds Try.pinned (OpenSpec.ofChange vlqSizesSpec)

/-- ITS FALSE NEIGHBOUR: 'it returns false'. Refute it at one input. -/
def vlqSizesWrong : ChangeSpec := { name := "vlqSizes", fn := fun _ => fun
  | [d] => { results := [.lit (.bool false)], args := [d] }
  | _ => none }
def VlqSizesWrongFalsely : Prop := vlqSizesRow.holds Try.pinned (OpenSpec.ofChange vlqSizesWrong)

/-- 'colloquylaw01.VlqPuts': WHATEVER THE INPUT: true; the input reads as it did. -/
def vlqPutsSpec : ChangeSpec := { name := "vlqPuts", fn := fun _ => fun
  | [d1, d2] => { results := [.lit (.bool true)], args := [d1, d2] }
  | _ => none }
def vlqPutsRow : OpenClaim := { program := "ytoanigdnkelhhaa", sum := "c85d8121fe69e66af69a45618f50db368932018435ffec147e9ab43328952212", func := "colloquy/colloquylaw01.VlqPuts", spec := "vlqPuts", unfollowed := true, recurses := true, apart := false }
def VlqPutsSaid : Prop := vlqPutsRow.holds Try.pinned (OpenSpec.ofChange vlqPutsSpec)

/-- ITS FALSE NEIGHBOUR: 'it returns false'. Refute it at one input. -/
def vlqPutsWrong : ChangeSpec := { name := "vlqPuts", fn := fun _ => fun
  | [d1, d2] => { results := [.lit (.bool false)], args := [d1, d2] }
  | _ => none }
def VlqPutsWrongFalsely : Prop := vlqPutsRow.holds Try.pinned (OpenSpec.ofChange vlqPutsWrong)

/-- 'colloquylaw01.VlqGets': WHATEVER THE INPUT: true; the input reads as it did. -/
def vlqGetsSpec : ChangeSpec := { name := "vlqGets", fn := fun _ => fun
  | [d] => { results := [.lit (.bool true)], args := [d] }
  | _ => none }
def vlqGetsRow : OpenClaim := { program := "ytoanigdnkelhhaa", sum := "c85d8121fe69e66af69a45618f50db368932018435ffec147e9ab43328952212", func := "colloquy/colloquylaw01.VlqGets", spec := "vlqGets", unfollowed := true, recurses := true, apart := false }
def VlqGetsSaid : Prop := vlqGetsRow.holds Try.pinned (OpenSpec.ofChange vlqGetsSpec)

/-- ITS FALSE NEIGHBOUR: 'it returns false'. Refute it at one input. -/
def vlqGetsWrong : ChangeSpec := { name := "vlqGets", fn := fun _ => fun
  | [d] => { results := [.lit (.bool false)], args := [d] }
  | _ => none }
def VlqGetsWrongFalsely : Prop := vlqGetsRow.holds Try.pinned (OpenSpec.ofChange vlqGetsWrong)

/-- 'colloquylaw01.VlqJoins': WHATEVER THE INPUT: true; the input reads as it did. -/
def vlqJoinsSpec : ChangeSpec := { name := "vlqJoins", fn := fun _ => fun
  | [d1, d2] => { results := [.lit (.bool true)], args := [d1, d2] }
  | _ => none }
def vlqJoinsRow : OpenClaim := { program := "ytoanigdnkelhhaa", sum := "c85d8121fe69e66af69a45618f50db368932018435ffec147e9ab43328952212", func := "colloquy/colloquylaw01.VlqJoins", spec := "vlqJoins", unfollowed := true, recurses := true, apart := false }
def VlqJoinsSaid : Prop := vlqJoinsRow.holds Try.pinned (OpenSpec.ofChange vlqJoinsSpec)

/-- ITS FALSE NEIGHBOUR: 'it returns false'. Refute it at one input. -/
def vlqJoinsWrong : ChangeSpec := { name := "vlqJoins", fn := fun _ => fun
  | [d1, d2] => { results := [.lit (.bool false)], args := [d1, d2] }
  | _ => none }
def VlqJoinsWrongFalsely : Prop := vlqJoinsRow.holds Try.pinned (OpenSpec.ofChange vlqJoinsWrong)

/-- 'colloquylaw01.VlqBack': WHATEVER THE INPUT: true; the input reads as it did. -/
def vlqBackSpec : ChangeSpec := { name := "vlqBack", fn := fun _ => fun
  | [d1, d2] => { results := [.lit (.bool true)], args := [d1, d2] }
  | _ => none }
def vlqBackRow : OpenClaim := { program := "ytoanigdnkelhhaa", sum := "c85d8121fe69e66af69a45618f50db368932018435ffec147e9ab43328952212", func := "colloquy/colloquylaw01.VlqBack", spec := "vlqBack", unfollowed := true, recurses := true, apart := false }
def VlqBackSaid : Prop := vlqBackRow.holds Try.pinned (OpenSpec.ofChange vlqBackSpec)

/-- ITS FALSE NEIGHBOUR: 'it returns false'. Refute it at one input. -/
def vlqBackWrong : ChangeSpec := { name := "vlqBack", fn := fun _ => fun
  | [d1, d2] => { results := [.lit (.bool false)], args := [d1, d2] }
  | _ => none }
def VlqBackWrongFalsely : Prop := vlqBackRow.holds Try.pinned (OpenSpec.ofChange vlqBackWrong)

/-- 'colloquylaw01.VlqOnce': WHATEVER THE INPUT: true; the input reads as it did. -/
def vlqOnceSpec : ChangeSpec := { name := "vlqOnce", fn := fun _ => fun
  | [d] => { results := [.lit (.bool true)], args := [d] }
  | _ => none }
def vlqOnceRow : OpenClaim := { program := "ytoanigdnkelhhaa", sum := "c85d8121fe69e66af69a45618f50db368932018435ffec147e9ab43328952212", func := "colloquy/colloquylaw01.VlqOnce", spec := "vlqOnce", unfollowed := true, recurses := true, apart := false }
def VlqOnceSaid : Prop := vlqOnceRow.holds Try.pinned (OpenSpec.ofChange vlqOnceSpec)

/-- ITS FALSE NEIGHBOUR: 'it returns false'. Refute it at one input. -/
def vlqOnceWrong : ChangeSpec := { name := "vlqOnce", fn := fun _ => fun
  | [d] => { results := [.lit (.bool false)], args := [d] }
  | _ => none }
def VlqOnceWrongFalsely : Prop := vlqOnceRow.holds Try.pinned (OpenSpec.ofChange vlqOnceWrong)

/- THE SECOND FORM. 'bulk': how many values and letters a reading holds, each counted each time it is reached (what is shared counts as often as it is met; a slice's spare places count too). A statement '..UptoSaid' is the law's where the arguments, and the package variables that the reading takes, are together of bulk at most 1048576: NARROWER than '..Said'. Prove '..Said' where nothing that the law and all that it calls make is longer than what came in: it says more and counts as full. Else prove '..UptoSaid'. A law counts once. -/
mutual
def uptoBulk {H : Type} : DataW H → Nat
  | .lit (.string bytes) => bytes.length + 1
  | .lit _ => 1
  | .nil => 1
  | .ptr d => uptoBulk d + 1
  | .slice elems spare => uptoBulkAll elems + uptoBulkAll spare + 1
  | .agg parts => uptoBulkAll parts + 1
  | .iface _ d => uptoBulk d + 1
  | .map entries => uptoBulkEntries entries + 1
  | .held _ => 1
def uptoBulkAll {H : Type} : List (DataW H) → Nat
  | [] => 0
  | d :: r => uptoBulk d + uptoBulkAll r
def uptoBulkEntries {H : Type} : List (Lit × DataW H) → Nat
  | [] => 0
  | x :: r => uptoBulkEntry x + uptoBulkEntries r
def uptoBulkEntry {H : Type} : Lit × DataW H → Nat
  | (.string bytes, d) => bytes.length + uptoBulk d + 1
  | (_, d) => uptoBulk d + 1
 end
def uptoSmall : (H : Type) → List (DataW H) → Bool := fun _ ds => decide (uptoBulkAll ds ≤ 1048576)
def OpenSpec.upto (s : _root_.Go.ChangeSpec) : _root_.Go.OpenSpec := { _root_.Go.OpenSpec.ofChange s with cond := some uptoSmall }

/-- 'colloquylaw01.VlqOrder', WHERE WHAT IT READS IS OF BULK AT MOST 1048576: true; the input reads as it did. -/
def vlqOrderUptoRow : OpenClaim := { program := "ytoanigdnkelhhaa", sum := "c85d8121fe69e66af69a45618f50db368932018435ffec147e9ab43328952212", func := "colloquy/colloquylaw01.VlqOrder", spec := "vlqOrder", unfollowed := true, recurses := true, apart := false, narrowed := true }
def VlqOrderUptoSaid : Prop := vlqOrderUptoRow.holds Try.pinned (OpenSpec.upto vlqOrderSpec)

/-- 'colloquylaw01.VlqShort', WHERE WHAT IT READS IS OF BULK AT MOST 1048576: true; the input reads as it did. -/
def vlqShortUptoRow : OpenClaim := { program := "ytoanigdnkelhhaa", sum := "c85d8121fe69e66af69a45618f50db368932018435ffec147e9ab43328952212", func := "colloquy/colloquylaw01.VlqShort", spec := "vlqShort", unfollowed := true, recurses := true, apart := false, narrowed := true }
def VlqShortUptoSaid : Prop := vlqShortUptoRow.holds Try.pinned (OpenSpec.upto vlqShortSpec)

/-- 'colloquylaw01.VlqSizes', WHERE WHAT IT READS IS OF BULK AT MOST 1048576: true; the input reads as it did. -/
def vlqSizesUptoRow : OpenClaim := { program := "ytoanigdnkelhhaa", sum := "c85d8121fe69e66af69a45618f50db368932018435ffec147e9ab43328952212", func := "colloquy/colloquylaw01.VlqSizes", spec := "vlqSizes", unfollowed := true, recurses := true, apart := false, narrowed := true }
def VlqSizesUptoSaid : Prop := vlqSizesUptoRow.holds Try.pinned (OpenSpec.upto vlqSizesSpec)

/-- 'colloquylaw01.VlqPuts', WHERE WHAT IT READS IS OF BULK AT MOST 1048576: true; the input reads as it did. -/
def vlqPutsUptoRow : OpenClaim := { program := "ytoanigdnkelhhaa", sum := "c85d8121fe69e66af69a45618f50db368932018435ffec147e9ab43328952212", func := "colloquy/colloquylaw01.VlqPuts", spec := "vlqPuts", unfollowed := true, recurses := true, apart := false, narrowed := true }
def VlqPutsUptoSaid : Prop := vlqPutsUptoRow.holds Try.pinned (OpenSpec.upto vlqPutsSpec)

/-- 'colloquylaw01.VlqGets', WHERE WHAT IT READS IS OF BULK AT MOST 1048576: true; the input reads as it did. -/
def vlqGetsUptoRow : OpenClaim := { program := "ytoanigdnkelhhaa", sum := "c85d8121fe69e66af69a45618f50db368932018435ffec147e9ab43328952212", func := "colloquy/colloquylaw01.VlqGets", spec := "vlqGets", unfollowed := true, recurses := true, apart := false, narrowed := true }
def VlqGetsUptoSaid : Prop := vlqGetsUptoRow.holds Try.pinned (OpenSpec.upto vlqGetsSpec)

/-- 'colloquylaw01.VlqJoins', WHERE WHAT IT READS IS OF BULK AT MOST 1048576: true; the input reads as it did. -/
def vlqJoinsUptoRow : OpenClaim := { program := "ytoanigdnkelhhaa", sum := "c85d8121fe69e66af69a45618f50db368932018435ffec147e9ab43328952212", func := "colloquy/colloquylaw01.VlqJoins", spec := "vlqJoins", unfollowed := true, recurses := true, apart := false, narrowed := true }
def VlqJoinsUptoSaid : Prop := vlqJoinsUptoRow.holds Try.pinned (OpenSpec.upto vlqJoinsSpec)

/-- 'colloquylaw01.VlqBack', WHERE WHAT IT READS IS OF BULK AT MOST 1048576: true; the input reads as it did. -/
def vlqBackUptoRow : OpenClaim := { program := "ytoanigdnkelhhaa", sum := "c85d8121fe69e66af69a45618f50db368932018435ffec147e9ab43328952212", func := "colloquy/colloquylaw01.VlqBack", spec := "vlqBack", unfollowed := true, recurses := true, apart := false, narrowed := true }
def VlqBackUptoSaid : Prop := vlqBackUptoRow.holds Try.pinned (OpenSpec.upto vlqBackSpec)

/-- 'colloquylaw01.VlqOnce', WHERE WHAT IT READS IS OF BULK AT MOST 1048576: true; the input reads as it did. -/
def vlqOnceUptoRow : OpenClaim := { program := "ytoanigdnkelhhaa", sum := "c85d8121fe69e66af69a45618f50db368932018435ffec147e9ab43328952212", func := "colloquy/colloquylaw01.VlqOnce", spec := "vlqOnce", unfollowed := true, recurses := true, apart := false, narrowed := true }
def VlqOnceUptoSaid : Prop := vlqOnceUptoRow.holds Try.pinned (OpenSpec.upto vlqOnceSpec)

end Rows
end Go.Proofs.Ytoanigdnkelhhaa

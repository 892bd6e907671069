/-
  No cell of these rows narrows 'for every input' (looked for: loops, veiled, ifaces, maps, wideKeys, modest, calm, conditions, laid).
  DERIVED. THE GIVEN ROWS OF THIS SEAT. 6 by the template 'for every input the law returns true; each argument reads behind the call as it read before'; 0 by the template 'total and deterministic' (their statements: YthkipipfdlepnaaTotals.lean).
  GIVEN WITH THE SEED: the statements are not yours to turn. If you find one false, say at which input.
  Laid BY PROGRAM, IN A SANDBOX (cutbox-rows.mjs): the forced cells as the released guide's own fill.sh prints them over the translation 78f6c9ec3089f834… (all of the seat's roots in one cut). By AI agents, Wed Nov 11 2026. No macro, syntax, notation, axiom, sorry.
-/
import Derived.Test.YthkipipfdlepnaaChecked
import GoSem.Claim
import GoSem.ClaimJoined
import GoSem.ClaimMapViews
import Derived.JoinedTies
import Derived.KernelRfl
namespace Go.Proofs.Ythkipipfdlepnaa
/- THE CELL 'sum', in the pinned program and in every row, IS THE sha256 OF THE DUMP (.gsa) THAT YthkipipfdlepnaaProg.lean LOADS. Nothing in Lean hashes anything: it is a label: what it is worth is what the hold of that sum in a sandbox is worth. -/
noncomputable def Try.pinned : Pinned := { name := "ythkipipfdlepnaa", sum := "78f6c9ec3089f83455cf22cea37e2d4a7e2d0632ba3fee7b53f78058b3d5b9e8", checked := Try.checked }
namespace Rows
def none {H : Type} : Left H := { results := [], args := [] }

/-- 'colloquylaw04.CommandNeeds': WHATEVER THE INPUT: true; the input reads as it did. -/
def commandNeedsSpec : ChangeSpec := { name := "commandNeeds", fn := fun _ => fun
  | [d] => { results := [.lit (.bool true)], args := [d] }
  | _ => none }
def commandNeedsRow : OpenClaim := { program := "ythkipipfdlepnaa", sum := "78f6c9ec3089f83455cf22cea37e2d4a7e2d0632ba3fee7b53f78058b3d5b9e8", func := "colloquy/colloquylaw04.CommandNeeds", spec := "commandNeeds", unfollowed := true, recurses := true, apart := false }
def CommandNeedsSaid : Prop := commandNeedsRow.holds Try.pinned (OpenSpec.ofChange commandNeedsSpec)

/-- ITS FALSE NEIGHBOUR: 'it returns false'. Refute it at one input. -/
def commandNeedsWrong : ChangeSpec := { name := "commandNeeds", fn := fun _ => fun
  | [d] => { results := [.lit (.bool false)], args := [d] }
  | _ => none }
def CommandNeedsWrongFalsely : Prop := commandNeedsRow.holds Try.pinned (OpenSpec.ofChange commandNeedsWrong)

/-- 'colloquylaw04.CommandKinds': WHATEVER THE INPUT: true; the input reads as it did. -/
def commandKindsSpec : ChangeSpec := { name := "commandKinds", fn := fun _ => fun
  | [d1, d2] => { results := [.lit (.bool true)], args := [d1, d2] }
  | _ => none }
def commandKindsRow : OpenClaim := { program := "ythkipipfdlepnaa", sum := "78f6c9ec3089f83455cf22cea37e2d4a7e2d0632ba3fee7b53f78058b3d5b9e8", func := "colloquy/colloquylaw04.CommandKinds", spec := "commandKinds", unfollowed := true, recurses := true, apart := false }
def CommandKindsSaid : Prop := commandKindsRow.holds Try.pinned (OpenSpec.ofChange commandKindsSpec)

/-- ITS FALSE NEIGHBOUR: 'it returns false'. Refute it at one input. -/
def commandKindsWrong : ChangeSpec := { name := "commandKinds", fn := fun _ => fun
  | [d1, d2] => { results := [.lit (.bool false)], args := [d1, d2] }
  | _ => none }
def CommandKindsWrongFalsely : Prop := commandKindsRow.holds Try.pinned (OpenSpec.ofChange commandKindsWrong)

/-- 'colloquylaw04.CommandPuts': WHATEVER THE INPUT: true; the input reads as it did. -/
def commandPutsSpec : ChangeSpec := { name := "commandPuts", fn := fun _ => fun
  | [d] => { results := [.lit (.bool true)], args := [d] }
  | _ => none }
def commandPutsRow : OpenClaim := { program := "ythkipipfdlepnaa", sum := "78f6c9ec3089f83455cf22cea37e2d4a7e2d0632ba3fee7b53f78058b3d5b9e8", func := "colloquy/colloquylaw04.CommandPuts", spec := "commandPuts", unfollowed := true, recurses := true, apart := false }
def CommandPutsSaid : Prop := commandPutsRow.holds Try.pinned (OpenSpec.ofChange commandPutsSpec)

/-- ITS FALSE NEIGHBOUR: 'it returns false'. Refute it at one input. -/
def commandPutsWrong : ChangeSpec := { name := "commandPuts", fn := fun _ => fun
  | [d] => { results := [.lit (.bool false)], args := [d] }
  | _ => none }
def CommandPutsWrongFalsely : Prop := commandPutsRow.holds Try.pinned (OpenSpec.ofChange commandPutsWrong)

/-- 'colloquylaw04.CommandGets': WHATEVER THE INPUT: true; the input reads as it did. -/
def commandGetsSpec : ChangeSpec := { name := "commandGets", fn := fun _ => fun
  | [d] => { results := [.lit (.bool true)], args := [d] }
  | _ => none }
def commandGetsRow : OpenClaim := { program := "ythkipipfdlepnaa", sum := "78f6c9ec3089f83455cf22cea37e2d4a7e2d0632ba3fee7b53f78058b3d5b9e8", func := "colloquy/colloquylaw04.CommandGets", spec := "commandGets", unfollowed := true, recurses := true, apart := false }
def CommandGetsSaid : Prop := commandGetsRow.holds Try.pinned (OpenSpec.ofChange commandGetsSpec)

/-- ITS FALSE NEIGHBOUR: 'it returns false'. Refute it at one input. -/
def commandGetsWrong : ChangeSpec := { name := "commandGets", fn := fun _ => fun
  | [d] => { results := [.lit (.bool false)], args := [d] }
  | _ => none }
def CommandGetsWrongFalsely : Prop := commandGetsRow.holds Try.pinned (OpenSpec.ofChange commandGetsWrong)

/-- 'colloquylaw04.CommandBack': WHATEVER THE INPUT: true; the input reads as it did. -/
def commandBackSpec : ChangeSpec := { name := "commandBack", fn := fun _ => fun
  | [d1, d2, d3] => { results := [.lit (.bool true)], args := [d1, d2, d3] }
  | _ => none }
def commandBackRow : OpenClaim := { program := "ythkipipfdlepnaa", sum := "78f6c9ec3089f83455cf22cea37e2d4a7e2d0632ba3fee7b53f78058b3d5b9e8", func := "colloquy/colloquylaw04.CommandBack", spec := "commandBack", unfollowed := true, recurses := true, apart := false }
def CommandBackSaid : Prop := commandBackRow.holds Try.pinned (OpenSpec.ofChange commandBackSpec)

/-- ITS FALSE NEIGHBOUR: 'it returns false'. Refute it at one input. -/
def commandBackWrong : ChangeSpec := { name := "commandBack", fn := fun _ => fun
  | [d1, d2, d3] => { results := [.lit (.bool false)], args := [d1, d2, d3] }
  | _ => none }
def CommandBackWrongFalsely : Prop := commandBackRow.holds Try.pinned (OpenSpec.ofChange commandBackWrong)

/-- 'colloquylaw04.CommandOnce': WHATEVER THE INPUT: true; the input reads as it did. -/
def commandOnceSpec : ChangeSpec := { name := "commandOnce", fn := fun _ => fun
  | [d] => { results := [.lit (.bool true)], args := [d] }
  | _ => none }
def commandOnceRow : OpenClaim := { program := "ythkipipfdlepnaa", sum := "78f6c9ec3089f83455cf22cea37e2d4a7e2d0632ba3fee7b53f78058b3d5b9e8", func := "colloquy/colloquylaw04.CommandOnce", spec := "commandOnce", unfollowed := true, recurses := true, apart := false }
def CommandOnceSaid : Prop := commandOnceRow.holds Try.pinned (OpenSpec.ofChange commandOnceSpec)

/-- ITS FALSE NEIGHBOUR: 'it returns false'. Refute it at one input. -/
def commandOnceWrong : ChangeSpec := { name := "commandOnce", fn := fun _ => fun
  | [d] => { results := [.lit (.bool false)], args := [d] }
  | _ => none }
def CommandOnceWrongFalsely : Prop := commandOnceRow.holds Try.pinned (OpenSpec.ofChange commandOnceWrong)

/- THE SECOND FORM. 'bulk': how many values and letters a reading holds, each counted each time it is reached (what is shared counts as often as it is met; a slice's spare places count too). A statement '..UptoSaid' is the law's where the arguments, and the package variables that the reading takes, are together of bulk at most 1048576: NARROWER than '..Said'. Prove '..Said' where nothing that the law and all that it calls make is longer than what came in: it says more and counts as full. Else prove '..UptoSaid'. A law counts once. -/
mutual
def uptoBulk {H : Type} : DataW H → Nat
  | .lit (.string bytes) => bytes.length + 1
  | .lit _ => 1
  | .nil => 1
  | .ptr d => uptoBulk d + 1
  | .slice elems spare => uptoBulkAll elems + uptoBulkAll spare + 1
  | .agg parts => uptoBulkAll parts + 1
  | .iface _ d => uptoBulk d + 1
  | .map entries => uptoBulkEntries entries + 1
  | .held _ => 1
def uptoBulkAll {H : Type} : List (DataW H) → Nat
  | [] => 0
  | d :: r => uptoBulk d + uptoBulkAll r
def uptoBulkEntries {H : Type} : List (Lit × DataW H) → Nat
  | [] => 0
  | x :: r => uptoBulkEntry x + uptoBulkEntries r
def uptoBulkEntry {H : Type} : Lit × DataW H → Nat
  | (.string bytes, d) => bytes.length + uptoBulk d + 1
  | (_, d) => uptoBulk d + 1
 end
def uptoSmall : (H : Type) → List (DataW H) → Bool := fun _ ds => decide (uptoBulkAll ds ≤ 1048576)
def OpenSpec.upto (s : _root_.Go.ChangeSpec) : _root_.Go.OpenSpec := { _root_.Go.OpenSpec.ofChange s with cond := some uptoSmall }

/-- 'colloquylaw04.CommandNeeds', WHERE WHAT IT READS IS OF BULK AT MOST 1048576: true; the input reads as it did. -/
def commandNeedsUptoRow : OpenClaim := { program := "ythkipipfdlepnaa", sum := "78f6c9ec3089f83455cf22cea37e2d4a7e2d0632ba3fee7b53f78058b3d5b9e8", func := "colloquy/colloquylaw04.CommandNeeds", spec := "commandNeeds", unfollowed := true, recurses := true, apart := false, narrowed := true }
def CommandNeedsUptoSaid : Prop := commandNeedsUptoRow.holds Try.pinned (OpenSpec.upto commandNeedsSpec)

/-- 'colloquylaw04.CommandKinds', WHERE WHAT IT READS IS OF BULK AT MOST 1048576: true; the input reads as it did. -/
def commandKindsUptoRow : OpenClaim := { program := "ythkipipfdlepnaa", sum := "78f6c9ec3089f83455cf22cea37e2d4a7e2d0632ba3fee7b53f78058b3d5b9e8", func := "colloquy/colloquylaw04.CommandKinds", spec := "commandKinds", unfollowed := true, recurses := true, apart := false, narrowed := true }
def CommandKindsUptoSaid : Prop := commandKindsUptoRow.holds Try.pinned (OpenSpec.upto commandKindsSpec)

/-- 'colloquylaw04.CommandPuts', WHERE WHAT IT READS IS OF BULK AT MOST 1048576: true; the input reads as it did. -/
def commandPutsUptoRow : OpenClaim := { program := "ythkipipfdlepnaa", sum := "78f6c9ec3089f83455cf22cea37e2d4a7e2d0632ba3fee7b53f78058b3d5b9e8", func := "colloquy/colloquylaw04.CommandPuts", spec := "commandPuts", unfollowed := true, recurses := true, apart := false, narrowed := true }
def CommandPutsUptoSaid : Prop := commandPutsUptoRow.holds Try.pinned (OpenSpec.upto commandPutsSpec)

/-- 'colloquylaw04.CommandGets', WHERE WHAT IT READS IS OF BULK AT MOST 1048576: true; the input reads as it did. -/
def commandGetsUptoRow : OpenClaim := { program := "ythkipipfdlepnaa", sum := "78f6c9ec3089f83455cf22cea37e2d4a7e2d0632ba3fee7b53f78058b3d5b9e8", func := "colloquy/colloquylaw04.CommandGets", spec := "commandGets", unfollowed := true, recurses := true, apart := false, narrowed := true }
def CommandGetsUptoSaid : Prop := commandGetsUptoRow.holds Try.pinned (OpenSpec.upto commandGetsSpec)

/-- 'colloquylaw04.CommandBack', WHERE WHAT IT READS IS OF BULK AT MOST 1048576: true; the input reads as it did. -/
def commandBackUptoRow : OpenClaim := { program := "ythkipipfdlepnaa", sum := "78f6c9ec3089f83455cf22cea37e2d4a7e2d0632ba3fee7b53f78058b3d5b9e8", func := "colloquy/colloquylaw04.CommandBack", spec := "commandBack", unfollowed := true, recurses := true, apart := false, narrowed := true }
def CommandBackUptoSaid : Prop := commandBackUptoRow.holds Try.pinned (OpenSpec.upto commandBackSpec)

/-- 'colloquylaw04.CommandOnce', WHERE WHAT IT READS IS OF BULK AT MOST 1048576: true; the input reads as it did. -/
def commandOnceUptoRow : OpenClaim := { program := "ythkipipfdlepnaa", sum := "78f6c9ec3089f83455cf22cea37e2d4a7e2d0632ba3fee7b53f78058b3d5b9e8", func := "colloquy/colloquylaw04.CommandOnce", spec := "commandOnce", unfollowed := true, recurses := true, apart := false, narrowed := true }
def CommandOnceUptoSaid : Prop := commandOnceUptoRow.holds Try.pinned (OpenSpec.upto commandOnceSpec)

end Rows
end Go.Proofs.Ythkipipfdlepnaa

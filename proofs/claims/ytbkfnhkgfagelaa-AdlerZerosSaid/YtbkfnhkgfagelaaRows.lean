/-
  No cell of these rows narrows 'for every input' (looked for: loops, veiled, ifaces, maps, wideKeys, modest, calm, conditions, laid).
  DERIVED. THE GIVEN ROWS OF THIS SEAT. 7 by the template 'for every input the law returns true; each argument reads behind the call as it read before'; 0 by the template 'total and deterministic' (their statements: YtbkfnhkgfagelaaTotals.lean).
  GIVEN WITH THE SEED: the statements are not yours to turn. If you find one false, say at which input.
  Laid BY PROGRAM, IN A SANDBOX (cutbox-rows.mjs): the forced cells as the released guide's own fill.sh prints them over the translation 69cbfa7deb25d96f… (all of the seat's roots in one cut). By AI agents, Wed Nov 11 2026. No macro, syntax, notation, axiom, sorry.
-/
import Derived.Test.YtbkfnhkgfagelaaChecked
import GoSem.Claim
import GoSem.ClaimJoined
import GoSem.ClaimMapViews
import Derived.JoinedTies
import Derived.KernelRfl
namespace Go.Proofs.Ytbkfnhkgfagelaa
/- THE CELL 'sum', in the pinned program and in every row, IS THE sha256 OF THE DUMP (.gsa) THAT YtbkfnhkgfagelaaProg.lean LOADS. Nothing in Lean hashes anything: it is a label: what it is worth is what the hold of that sum in a sandbox is worth. -/
noncomputable def Try.pinned : Pinned := { name := "ytbkfnhkgfagelaa", sum := "69cbfa7deb25d96f045fed0967aba47976ae9fe38b47fa8d47e4444e57a78b7b", checked := Try.checked }
namespace Rows
def none {H : Type} : Left H := { results := [], args := [] }

/-- 'colloquylaw02.AdlerTurns': WHATEVER THE INPUT: true; the input reads as it did. -/
def adlerTurnsSpec : ChangeSpec := { name := "adlerTurns", fn := fun _ => fun
  | [d1, d2, d3] => { results := [.lit (.bool true)], args := [d1, d2, d3] }
  | _ => none }
def adlerTurnsRow : OpenClaim := { program := "ytbkfnhkgfagelaa", sum := "69cbfa7deb25d96f045fed0967aba47976ae9fe38b47fa8d47e4444e57a78b7b", func := "colloquy/colloquylaw02.AdlerTurns", spec := "adlerTurns", apart := false }
def AdlerTurnsSaid : Prop := adlerTurnsRow.holds Try.pinned (OpenSpec.ofChange adlerTurnsSpec)

/-- ITS FALSE NEIGHBOUR: 'it returns false'. Refute it at one input. -/
def adlerTurnsWrong : ChangeSpec := { name := "adlerTurns", fn := fun _ => fun
  | [d1, d2, d3] => { results := [.lit (.bool false)], args := [d1, d2, d3] }
  | _ => none }
def AdlerTurnsWrongFalsely : Prop := adlerTurnsRow.holds Try.pinned (OpenSpec.ofChange adlerTurnsWrong)

/-- 'colloquylaw02.AdlerSums': WHATEVER THE INPUT: true; the input reads as it did. -/
def adlerSumsSpec : ChangeSpec := { name := "adlerSums", fn := fun _ => fun
  | [d1, d2] => { results := [.lit (.bool true)], args := [d1, d2] }
  | _ => none }
def adlerSumsRow : OpenClaim := { program := "ytbkfnhkgfagelaa", sum := "69cbfa7deb25d96f045fed0967aba47976ae9fe38b47fa8d47e4444e57a78b7b", func := "colloquy/colloquylaw02.AdlerSums", spec := "adlerSums", apart := false }
def AdlerSumsSaid : Prop := adlerSumsRow.holds Try.pinned (OpenSpec.ofChange adlerSumsSpec)

/-- ITS FALSE NEIGHBOUR: 'it returns false'. Refute it at one input. -/
def adlerSumsWrong : ChangeSpec := { name := "adlerSums", fn := fun _ => fun
  | [d1, d2] => { results := [.lit (.bool false)], args := [d1, d2] }
  | _ => none }
def AdlerSumsWrongFalsely : Prop := adlerSumsRow.holds Try.pinned (OpenSpec.ofChange adlerSumsWrong)

/-- 'colloquylaw02.AdlerJoins': WHATEVER THE INPUT: true; the input reads as it did. -/
def adlerJoinsSpec : ChangeSpec := { name := "adlerJoins", fn := fun _ => fun
  | [d1, d2, d3] => { results := [.lit (.bool true)], args := [d1, d2, d3] }
  | _ => none }
def adlerJoinsRow : OpenClaim := { program := "ytbkfnhkgfagelaa", sum := "69cbfa7deb25d96f045fed0967aba47976ae9fe38b47fa8d47e4444e57a78b7b", func := "colloquy/colloquylaw02.AdlerJoins", spec := "adlerJoins", apart := false }
def AdlerJoinsSaid : Prop := adlerJoinsRow.holds Try.pinned (OpenSpec.ofChange adlerJoinsSpec)

/-- ITS FALSE NEIGHBOUR: 'it returns false'. Refute it at one input. -/
def adlerJoinsWrong : ChangeSpec := { name := "adlerJoins", fn := fun _ => fun
  | [d1, d2, d3] => { results := [.lit (.bool false)], args := [d1, d2, d3] }
  | _ => none }
def AdlerJoinsWrongFalsely : Prop := adlerJoinsRow.holds Try.pinned (OpenSpec.ofChange adlerJoinsWrong)

/-- 'colloquylaw02.AdlerDrops': WHATEVER THE INPUT: true; the input reads as it did. -/
def adlerDropsSpec : ChangeSpec := { name := "adlerDrops", fn := fun _ => fun
  | [d] => { results := [.lit (.bool true)], args := [d] }
  | _ => none }
def adlerDropsRow : OpenClaim := { program := "ytbkfnhkgfagelaa", sum := "69cbfa7deb25d96f045fed0967aba47976ae9fe38b47fa8d47e4444e57a78b7b", func := "colloquy/colloquylaw02.AdlerDrops", spec := "adlerDrops", apart := false }
def AdlerDropsSaid : Prop := adlerDropsRow.holds Try.pinned (OpenSpec.ofChange adlerDropsSpec)

/-- ITS FALSE NEIGHBOUR: 'it returns false'. Refute it at one input. -/
def adlerDropsWrong : ChangeSpec := { name := "adlerDrops", fn := fun _ => fun
  | [d] => { results := [.lit (.bool false)], args := [d] }
  | _ => none }
def AdlerDropsWrongFalsely : Prop := adlerDropsRow.holds Try.pinned (OpenSpec.ofChange adlerDropsWrong)

/-- 'colloquylaw02.AdlerZeros': WHATEVER THE INPUT: true; the input reads as it did. -/
def adlerZerosSpec : ChangeSpec := { name := "adlerZeros", fn := fun _ => fun
  | [d1, d2] => { results := [.lit (.bool true)], args := [d1, d2] }
  | _ => none }
def adlerZerosRow : OpenClaim := { program := "ytbkfnhkgfagelaa", sum := "69cbfa7deb25d96f045fed0967aba47976ae9fe38b47fa8d47e4444e57a78b7b", func := "colloquy/colloquylaw02.AdlerZeros", spec := "adlerZeros", apart := false }
def AdlerZerosSaid : Prop := adlerZerosRow.holds Try.pinned (OpenSpec.ofChange adlerZerosSpec)

/-- ITS FALSE NEIGHBOUR: 'it returns false'. Refute it at one input. -/
def adlerZerosWrong : ChangeSpec := { name := "adlerZeros", fn := fun _ => fun
  | [d1, d2] => { results := [.lit (.bool false)], args := [d1, d2] }
  | _ => none }
def AdlerZerosWrongFalsely : Prop := adlerZerosRow.holds Try.pinned (OpenSpec.ofChange adlerZerosWrong)

/-- 'colloquylaw02.AdlerOne': WHATEVER THE INPUT: true; the input reads as it did. -/
def adlerOneSpec : ChangeSpec := { name := "adlerOne", fn := fun _ => fun
  | [d1, d2] => { results := [.lit (.bool true)], args := [d1, d2] }
  | _ => none }
def adlerOneRow : OpenClaim := { program := "ytbkfnhkgfagelaa", sum := "69cbfa7deb25d96f045fed0967aba47976ae9fe38b47fa8d47e4444e57a78b7b", func := "colloquy/colloquylaw02.AdlerOne", spec := "adlerOne", apart := false }
def AdlerOneSaid : Prop := adlerOneRow.holds Try.pinned (OpenSpec.ofChange adlerOneSpec)

/-- ITS FALSE NEIGHBOUR: 'it returns false'. Refute it at one input. -/
def adlerOneWrong : ChangeSpec := { name := "adlerOne", fn := fun _ => fun
  | [d1, d2] => { results := [.lit (.bool false)], args := [d1, d2] }
  | _ => none }
def AdlerOneWrongFalsely : Prop := adlerOneRow.holds Try.pinned (OpenSpec.ofChange adlerOneWrong)

/-- 'colloquylaw02.AdlerTells': WHATEVER THE INPUT: true; the input reads as it did. -/
def adlerTellsSpec : ChangeSpec := { name := "adlerTells", fn := fun _ => fun
  | [d1, d2, d3, d4] => { results := [.lit (.bool true)], args := [d1, d2, d3, d4] }
  | _ => none }
def adlerTellsRow : OpenClaim := { program := "ytbkfnhkgfagelaa", sum := "69cbfa7deb25d96f045fed0967aba47976ae9fe38b47fa8d47e4444e57a78b7b", func := "colloquy/colloquylaw02.AdlerTells", spec := "adlerTells", apart := false }
def AdlerTellsSaid : Prop := adlerTellsRow.holds Try.pinned (OpenSpec.ofChange adlerTellsSpec)

/-- ITS FALSE NEIGHBOUR: 'it returns false'. Refute it at one input. -/
def adlerTellsWrong : ChangeSpec := { name := "adlerTells", fn := fun _ => fun
  | [d1, d2, d3, d4] => { results := [.lit (.bool false)], args := [d1, d2, d3, d4] }
  | _ => none }
def AdlerTellsWrongFalsely : Prop := adlerTellsRow.holds Try.pinned (OpenSpec.ofChange adlerTellsWrong)

/- THE SECOND FORM. 'bulk': how many values and letters a reading holds, each counted each time it is reached (what is shared counts as often as it is met; a slice's spare places count too). A statement '..UptoSaid' is the law's where the arguments, and the package variables that the reading takes, are together of bulk at most 1048576: NARROWER than '..Said'. Prove '..Said' where nothing that the law and all that it calls make is longer than what came in: it says more and counts as full. Else prove '..UptoSaid'. A law counts once. -/
mutual
def uptoBulk {H : Type} : DataW H → Nat
  | .lit (.string bytes) => bytes.length + 1
  | .lit _ => 1
  | .nil => 1
  | .ptr d => uptoBulk d + 1
  | .slice elems spare => uptoBulkAll elems + uptoBulkAll spare + 1
  | .agg parts => uptoBulkAll parts + 1
  | .iface _ d => uptoBulk d + 1
  | .map entries => uptoBulkEntries entries + 1
  | .held _ => 1
def uptoBulkAll {H : Type} : List (DataW H) → Nat
  | [] => 0
  | d :: r => uptoBulk d + uptoBulkAll r
def uptoBulkEntries {H : Type} : List (Lit × DataW H) → Nat
  | [] => 0
  | x :: r => uptoBulkEntry x + uptoBulkEntries r
def uptoBulkEntry {H : Type} : Lit × DataW H → Nat
  | (.string bytes, d) => bytes.length + uptoBulk d + 1
  | (_, d) => uptoBulk d + 1
 end
def uptoSmall : (H : Type) → List (DataW H) → Bool := fun _ ds => decide (uptoBulkAll ds ≤ 1048576)
def OpenSpec.upto (s : _root_.Go.ChangeSpec) : _root_.Go.OpenSpec := { _root_.Go.OpenSpec.ofChange s with cond := some uptoSmall }

/-- 'colloquylaw02.AdlerTurns', WHERE WHAT IT READS IS OF BULK AT MOST 1048576: true; the input reads as it did. -/
def adlerTurnsUptoRow : OpenClaim := { program := "ytbkfnhkgfagelaa", sum := "69cbfa7deb25d96f045fed0967aba47976ae9fe38b47fa8d47e4444e57a78b7b", func := "colloquy/colloquylaw02.AdlerTurns", spec := "adlerTurns", apart := false, narrowed := true }
def AdlerTurnsUptoSaid : Prop := adlerTurnsUptoRow.holds Try.pinned (OpenSpec.upto adlerTurnsSpec)

/-- 'colloquylaw02.AdlerSums', WHERE WHAT IT READS IS OF BULK AT MOST 1048576: true; the input reads as it did. -/
def adlerSumsUptoRow : OpenClaim := { program := "ytbkfnhkgfagelaa", sum := "69cbfa7deb25d96f045fed0967aba47976ae9fe38b47fa8d47e4444e57a78b7b", func := "colloquy/colloquylaw02.AdlerSums", spec := "adlerSums", apart := false, narrowed := true }
def AdlerSumsUptoSaid : Prop := adlerSumsUptoRow.holds Try.pinned (OpenSpec.upto adlerSumsSpec)

/-- 'colloquylaw02.AdlerJoins', WHERE WHAT IT READS IS OF BULK AT MOST 1048576: true; the input reads as it did. -/
def adlerJoinsUptoRow : OpenClaim := { program := "ytbkfnhkgfagelaa", sum := "69cbfa7deb25d96f045fed0967aba47976ae9fe38b47fa8d47e4444e57a78b7b", func := "colloquy/colloquylaw02.AdlerJoins", spec := "adlerJoins", apart := false, narrowed := true }
def AdlerJoinsUptoSaid : Prop := adlerJoinsUptoRow.holds Try.pinned (OpenSpec.upto adlerJoinsSpec)

/-- 'colloquylaw02.AdlerDrops', WHERE WHAT IT READS IS OF BULK AT MOST 1048576: true; the input reads as it did. -/
def adlerDropsUptoRow : OpenClaim := { program := "ytbkfnhkgfagelaa", sum := "69cbfa7deb25d96f045fed0967aba47976ae9fe38b47fa8d47e4444e57a78b7b", func := "colloquy/colloquylaw02.AdlerDrops", spec := "adlerDrops", apart := false, narrowed := true }
def AdlerDropsUptoSaid : Prop := adlerDropsUptoRow.holds Try.pinned (OpenSpec.upto adlerDropsSpec)

/-- 'colloquylaw02.AdlerZeros', WHERE WHAT IT READS IS OF BULK AT MOST 1048576: true; the input reads as it did. -/
def adlerZerosUptoRow : OpenClaim := { program := "ytbkfnhkgfagelaa", sum := "69cbfa7deb25d96f045fed0967aba47976ae9fe38b47fa8d47e4444e57a78b7b", func := "colloquy/colloquylaw02.AdlerZeros", spec := "adlerZeros", apart := false, narrowed := true }
def AdlerZerosUptoSaid : Prop := adlerZerosUptoRow.holds Try.pinned (OpenSpec.upto adlerZerosSpec)

/-- 'colloquylaw02.AdlerOne', WHERE WHAT IT READS IS OF BULK AT MOST 1048576: true; the input reads as it did. -/
def adlerOneUptoRow : OpenClaim := { program := "ytbkfnhkgfagelaa", sum := "69cbfa7deb25d96f045fed0967aba47976ae9fe38b47fa8d47e4444e57a78b7b", func := "colloquy/colloquylaw02.AdlerOne", spec := "adlerOne", apart := false, narrowed := true }
def AdlerOneUptoSaid : Prop := adlerOneUptoRow.holds Try.pinned (OpenSpec.upto adlerOneSpec)

/-- 'colloquylaw02.AdlerTells', WHERE WHAT IT READS IS OF BULK AT MOST 1048576: true; the input reads as it did. -/
def adlerTellsUptoRow : OpenClaim := { program := "ytbkfnhkgfagelaa", sum := "69cbfa7deb25d96f045fed0967aba47976ae9fe38b47fa8d47e4444e57a78b7b", func := "colloquy/colloquylaw02.AdlerTells", spec := "adlerTells", apart := false, narrowed := true }
def AdlerTellsUptoSaid : Prop := adlerTellsUptoRow.holds Try.pinned (OpenSpec.upto adlerTellsSpec)

end Rows
end Go.Proofs.Ytbkfnhkgfagelaa

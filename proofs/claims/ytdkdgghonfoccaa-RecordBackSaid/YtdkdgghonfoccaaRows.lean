/-
  No cell of these rows narrows 'for every input' (looked for: loops, veiled, ifaces, maps, wideKeys, modest, calm, conditions, laid).
  DERIVED. THE GIVEN ROWS OF THIS SEAT. 7 by the template 'for every input the law returns true; each argument reads behind the call as it read before'; 0 by the template 'total and deterministic' (their statements: YtdkdgghonfoccaaTotals.lean).
  GIVEN WITH THE SEED: the statements are not yours to turn. If you find one false, say at which input.
  Laid BY PROGRAM, IN A SANDBOX (cutbox-rows.mjs): the forced cells as the released guide's own fill.sh prints them over the translation f85cc15d8c3bada1… (all of the seat's roots in one cut). By AI agents, Wed Nov 11 2026. No macro, syntax, notation, axiom, sorry.
-/
import Derived.Test.YtdkdgghonfoccaaChecked
import GoSem.Claim
import GoSem.ClaimJoined
import GoSem.ClaimMapViews
import Derived.JoinedTies
import Derived.KernelRfl
namespace Go.Proofs.Ytdkdgghonfoccaa
/- THE CELL 'sum', in the pinned program and in every row, IS THE sha256 OF THE DUMP (.gsa) THAT YtdkdgghonfoccaaProg.lean LOADS. Nothing in Lean hashes anything: it is a label: what it is worth is what the hold of that sum in a sandbox is worth. -/
noncomputable def Try.pinned : Pinned := { name := "ytdkdgghonfoccaa", sum := "f85cc15d8c3bada1f8a60f8b6ab71f9bb3d233acca94395afc9d69cb4940c653", checked := Try.checked }
namespace Rows
def none {H : Type} : Left H := { results := [], args := [] }

/-- 'colloquylaw03.RecordPuts': WHATEVER THE INPUT: true; the input reads as it did. -/
def recordPutsSpec : ChangeSpec := { name := "recordPuts", fn := fun _ => fun
  | [d] => { results := [.lit (.bool true)], args := [d] }
  | _ => none }
def recordPutsRow : OpenClaim := { program := "ytdkdgghonfoccaa", sum := "f85cc15d8c3bada1f8a60f8b6ab71f9bb3d233acca94395afc9d69cb4940c653", func := "colloquy/colloquylaw03.RecordPuts", spec := "recordPuts", unfollowed := true, recurses := true, apart := false }
def RecordPutsSaid : Prop := recordPutsRow.holds Try.pinned (OpenSpec.ofChange recordPutsSpec)

/-- ITS FALSE NEIGHBOUR: 'it returns false'. Refute it at one input. -/
def recordPutsWrong : ChangeSpec := { name := "recordPuts", fn := fun _ => fun
  | [d] => { results := [.lit (.bool false)], args := [d] }
  | _ => none }
def RecordPutsWrongFalsely : Prop := recordPutsRow.holds Try.pinned (OpenSpec.ofChange recordPutsWrong)

/-- 'colloquylaw03.RecordLong': WHATEVER THE INPUT: true; the input reads as it did. -/
def recordLongSpec : ChangeSpec := { name := "recordLong", fn := fun _ => fun
  | [d] => { results := [.lit (.bool true)], args := [d] }
  | _ => none }
def recordLongRow : OpenClaim := { program := "ytdkdgghonfoccaa", sum := "f85cc15d8c3bada1f8a60f8b6ab71f9bb3d233acca94395afc9d69cb4940c653", func := "colloquy/colloquylaw03.RecordLong", spec := "recordLong", unfollowed := true, recurses := true, apart := false }
def RecordLongSaid : Prop := recordLongRow.holds Try.pinned (OpenSpec.ofChange recordLongSpec)

/-- ITS FALSE NEIGHBOUR: 'it returns false'. Refute it at one input. -/
def recordLongWrong : ChangeSpec := { name := "recordLong", fn := fun _ => fun
  | [d] => { results := [.lit (.bool false)], args := [d] }
  | _ => none }
def RecordLongWrongFalsely : Prop := recordLongRow.holds Try.pinned (OpenSpec.ofChange recordLongWrong)

/-- 'colloquylaw03.RecordOnce': WHATEVER THE INPUT: true; the input reads as it did. -/
def recordOnceSpec : ChangeSpec := { name := "recordOnce", fn := fun _ => fun
  | [d] => { results := [.lit (.bool true)], args := [d] }
  | _ => none }
def recordOnceRow : OpenClaim := { program := "ytdkdgghonfoccaa", sum := "f85cc15d8c3bada1f8a60f8b6ab71f9bb3d233acca94395afc9d69cb4940c653", func := "colloquy/colloquylaw03.RecordOnce", spec := "recordOnce", unfollowed := true, recurses := true, apart := false }
def RecordOnceSaid : Prop := recordOnceRow.holds Try.pinned (OpenSpec.ofChange recordOnceSpec)

/-- ITS FALSE NEIGHBOUR: 'it returns false'. Refute it at one input. -/
def recordOnceWrong : ChangeSpec := { name := "recordOnce", fn := fun _ => fun
  | [d] => { results := [.lit (.bool false)], args := [d] }
  | _ => none }
def RecordOnceWrongFalsely : Prop := recordOnceRow.holds Try.pinned (OpenSpec.ofChange recordOnceWrong)

/-- 'colloquylaw03.RecordTurns': WHATEVER THE INPUT: true; the input reads as it did. -/
def recordTurnsSpec : ChangeSpec := { name := "recordTurns", fn := fun _ => fun
  | [d1, d2, d3, d4] => { results := [.lit (.bool true)], args := [d1, d2, d3, d4] }
  | _ => none }
def recordTurnsRow : OpenClaim := { program := "ytdkdgghonfoccaa", sum := "f85cc15d8c3bada1f8a60f8b6ab71f9bb3d233acca94395afc9d69cb4940c653", func := "colloquy/colloquylaw03.RecordTurns", spec := "recordTurns", unfollowed := true, recurses := true, apart := false }
def RecordTurnsSaid : Prop := recordTurnsRow.holds Try.pinned (OpenSpec.ofChange recordTurnsSpec)

/-- ITS FALSE NEIGHBOUR: 'it returns false'. Refute it at one input. -/
def recordTurnsWrong : ChangeSpec := { name := "recordTurns", fn := fun _ => fun
  | [d1, d2, d3, d4] => { results := [.lit (.bool false)], args := [d1, d2, d3, d4] }
  | _ => none }
def RecordTurnsWrongFalsely : Prop := recordTurnsRow.holds Try.pinned (OpenSpec.ofChange recordTurnsWrong)

/-- 'colloquylaw03.RecordCuts': WHATEVER THE INPUT: true; the input reads as it did. -/
def recordCutsSpec : ChangeSpec := { name := "recordCuts", fn := fun _ => fun
  | [d1, d2] => { results := [.lit (.bool true)], args := [d1, d2] }
  | _ => none }
def recordCutsRow : OpenClaim := { program := "ytdkdgghonfoccaa", sum := "f85cc15d8c3bada1f8a60f8b6ab71f9bb3d233acca94395afc9d69cb4940c653", func := "colloquy/colloquylaw03.RecordCuts", spec := "recordCuts", unfollowed := true, recurses := true, apart := false }
def RecordCutsSaid : Prop := recordCutsRow.holds Try.pinned (OpenSpec.ofChange recordCutsSpec)

/-- ITS FALSE NEIGHBOUR: 'it returns false'. Refute it at one input. -/
def recordCutsWrong : ChangeSpec := { name := "recordCuts", fn := fun _ => fun
  | [d1, d2] => { results := [.lit (.bool false)], args := [d1, d2] }
  | _ => none }
def RecordCutsWrongFalsely : Prop := recordCutsRow.holds Try.pinned (OpenSpec.ofChange recordCutsWrong)

/-- 'colloquylaw03.RecordGets': WHATEVER THE INPUT: true; the input reads as it did. -/
def recordGetsSpec : ChangeSpec := { name := "recordGets", fn := fun _ => fun
  | [d] => { results := [.lit (.bool true)], args := [d] }
  | _ => none }
def recordGetsRow : OpenClaim := { program := "ytdkdgghonfoccaa", sum := "f85cc15d8c3bada1f8a60f8b6ab71f9bb3d233acca94395afc9d69cb4940c653", func := "colloquy/colloquylaw03.RecordGets", spec := "recordGets", unfollowed := true, recurses := true, apart := false }
def RecordGetsSaid : Prop := recordGetsRow.holds Try.pinned (OpenSpec.ofChange recordGetsSpec)

/-- ITS FALSE NEIGHBOUR: 'it returns false'. Refute it at one input. -/
def recordGetsWrong : ChangeSpec := { name := "recordGets", fn := fun _ => fun
  | [d] => { results := [.lit (.bool false)], args := [d] }
  | _ => none }
def RecordGetsWrongFalsely : Prop := recordGetsRow.holds Try.pinned (OpenSpec.ofChange recordGetsWrong)

/-- 'colloquylaw03.RecordBack': WHATEVER THE INPUT: true; the input reads as it did. -/
def recordBackSpec : ChangeSpec := { name := "recordBack", fn := fun _ => fun
  | [d1, d2] => { results := [.lit (.bool true)], args := [d1, d2] }
  | _ => none }
def recordBackRow : OpenClaim := { program := "ytdkdgghonfoccaa", sum := "f85cc15d8c3bada1f8a60f8b6ab71f9bb3d233acca94395afc9d69cb4940c653", func := "colloquy/colloquylaw03.RecordBack", spec := "recordBack", unfollowed := true, recurses := true, apart := false }
def RecordBackSaid : Prop := recordBackRow.holds Try.pinned (OpenSpec.ofChange recordBackSpec)

/-- ITS FALSE NEIGHBOUR: 'it returns false'. Refute it at one input. -/
def recordBackWrong : ChangeSpec := { name := "recordBack", fn := fun _ => fun
  | [d1, d2] => { results := [.lit (.bool false)], args := [d1, d2] }
  | _ => none }
def RecordBackWrongFalsely : Prop := recordBackRow.holds Try.pinned (OpenSpec.ofChange recordBackWrong)

/- THE SECOND FORM. 'bulk': how many values and letters a reading holds, each counted each time it is reached (what is shared counts as often as it is met; a slice's spare places count too). A statement '..UptoSaid' is the law's where the arguments, and the package variables that the reading takes, are together of bulk at most 1048576: NARROWER than '..Said'. Prove '..Said' where nothing that the law and all that it calls make is longer than what came in: it says more and counts as full. Else prove '..UptoSaid'. A law counts once. -/
mutual
def uptoBulk {H : Type} : DataW H → Nat
  | .lit (.string bytes) => bytes.length + 1
  | .lit _ => 1
  | .nil => 1
  | .ptr d => uptoBulk d + 1
  | .slice elems spare => uptoBulkAll elems + uptoBulkAll spare + 1
  | .agg parts => uptoBulkAll parts + 1
  | .iface _ d => uptoBulk d + 1
  | .map entries => uptoBulkEntries entries + 1
  | .held _ => 1
def uptoBulkAll {H : Type} : List (DataW H) → Nat
  | [] => 0
  | d :: r => uptoBulk d + uptoBulkAll r
def uptoBulkEntries {H : Type} : List (Lit × DataW H) → Nat
  | [] => 0
  | x :: r => uptoBulkEntry x + uptoBulkEntries r
def uptoBulkEntry {H : Type} : Lit × DataW H → Nat
  | (.string bytes, d) => bytes.length + uptoBulk d + 1
  | (_, d) => uptoBulk d + 1
 end
def uptoSmall : (H : Type) → List (DataW H) → Bool := fun _ ds => decide (uptoBulkAll ds ≤ 1048576)
def OpenSpec.upto (s : _root_.Go.ChangeSpec) : _root_.Go.OpenSpec := { _root_.Go.OpenSpec.ofChange s with cond := some uptoSmall }

/-- 'colloquylaw03.RecordPuts', WHERE WHAT IT READS IS OF BULK AT MOST 1048576: true; the input reads as it did. -/
def recordPutsUptoRow : OpenClaim := { program := "ytdkdgghonfoccaa", sum := "f85cc15d8c3bada1f8a60f8b6ab71f9bb3d233acca94395afc9d69cb4940c653", func := "colloquy/colloquylaw03.RecordPuts", spec := "recordPuts", unfollowed := true, recurses := true, apart := false, narrowed := true }
def RecordPutsUptoSaid : Prop := recordPutsUptoRow.holds Try.pinned (OpenSpec.upto recordPutsSpec)

/-- 'colloquylaw03.RecordLong', WHERE WHAT IT READS IS OF BULK AT MOST 1048576: true; the input reads as it did. -/
def recordLongUptoRow : OpenClaim := { program := "ytdkdgghonfoccaa", sum := "f85cc15d8c3bada1f8a60f8b6ab71f9bb3d233acca94395afc9d69cb4940c653", func := "colloquy/colloquylaw03.RecordLong", spec := "recordLong", unfollowed := true, recurses := true, apart := false, narrowed := true }
def RecordLongUptoSaid : Prop := recordLongUptoRow.holds Try.pinned (OpenSpec.upto recordLongSpec)

/-- 'colloquylaw03.RecordOnce', WHERE WHAT IT READS IS OF BULK AT MOST 1048576: true; the input reads as it did. -/
def recordOnceUptoRow : OpenClaim := { program := "ytdkdgghonfoccaa", sum := "f85cc15d8c3bada1f8a60f8b6ab71f9bb3d233acca94395afc9d69cb4940c653", func := "colloquy/colloquylaw03.RecordOnce", spec := "recordOnce", unfollowed := true, recurses := true, apart := false, narrowed := true }
def RecordOnceUptoSaid : Prop := recordOnceUptoRow.holds Try.pinned (OpenSpec.upto recordOnceSpec)

/-- 'colloquylaw03.RecordTurns', WHERE WHAT IT READS IS OF BULK AT MOST 1048576: true; the input reads as it did. -/
def recordTurnsUptoRow : OpenClaim := { program := "ytdkdgghonfoccaa", sum := "f85cc15d8c3bada1f8a60f8b6ab71f9bb3d233acca94395afc9d69cb4940c653", func := "colloquy/colloquylaw03.RecordTurns", spec := "recordTurns", unfollowed := true, recurses := true, apart := false, narrowed := true }
def RecordTurnsUptoSaid : Prop := recordTurnsUptoRow.holds Try.pinned (OpenSpec.upto recordTurnsSpec)

/-- 'colloquylaw03.RecordCuts', WHERE WHAT IT READS IS OF BULK AT MOST 1048576: true; the input reads as it did. -/
def recordCutsUptoRow : OpenClaim := { program := "ytdkdgghonfoccaa", sum := "f85cc15d8c3bada1f8a60f8b6ab71f9bb3d233acca94395afc9d69cb4940c653", func := "colloquy/colloquylaw03.RecordCuts", spec := "recordCuts", unfollowed := true, recurses := true, apart := false, narrowed := true }
def RecordCutsUptoSaid : Prop := recordCutsUptoRow.holds Try.pinned (OpenSpec.upto recordCutsSpec)

/-- 'colloquylaw03.RecordGets', WHERE WHAT IT READS IS OF BULK AT MOST 1048576: true; the input reads as it did. -/
def recordGetsUptoRow : OpenClaim := { program := "ytdkdgghonfoccaa", sum := "f85cc15d8c3bada1f8a60f8b6ab71f9bb3d233acca94395afc9d69cb4940c653", func := "colloquy/colloquylaw03.RecordGets", spec := "recordGets", unfollowed := true, recurses := true, apart := false, narrowed := true }
def RecordGetsUptoSaid : Prop := recordGetsUptoRow.holds Try.pinned (OpenSpec.upto recordGetsSpec)

/-- 'colloquylaw03.RecordBack', WHERE WHAT IT READS IS OF BULK AT MOST 1048576: true; the input reads as it did. -/
def recordBackUptoRow : OpenClaim := { program := "ytdkdgghonfoccaa", sum := "f85cc15d8c3bada1f8a60f8b6ab71f9bb3d233acca94395afc9d69cb4940c653", func := "colloquy/colloquylaw03.RecordBack", spec := "recordBack", unfollowed := true, recurses := true, apart := false, narrowed := true }
def RecordBackUptoSaid : Prop := recordBackUptoRow.holds Try.pinned (OpenSpec.upto recordBackSpec)

end Rows
end Go.Proofs.Ytdkdgghonfoccaa

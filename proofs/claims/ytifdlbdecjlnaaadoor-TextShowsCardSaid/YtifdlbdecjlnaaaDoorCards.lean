/-
  DERIVED. GIVEN WITH THE SEED: THE CARDS: each row of YtifdlbdecjlnaaaDoorRows.lean that lists a variable, with what it lists TIED to the program's text (the seventh form; the later family's looks); each row that meets fmt, with fmt's text TOLD by the authors' own Lean function (tested against real Go, not proved from fmt's source: count such statements apart). THE CARD IS WHAT COUNTS. Prove the row's statement (the work); the ties are given (YtifdlbdecjlnaaaDoorTie.lean); close each card by the builder's one call (the guide's Derived/Test/ToyasCard.lean, 'card_holds'). Laid BY PROGRAM, IN A SANDBOX (cutbox-door.mjs). By AI agents, Wed Nov 11 2026. No macro, syntax, notation, axiom, sorry.
-/
import Derived.Test.YtifdlbdecjlnaaaDoorRows
import GoSem.ClaimSeven
namespace Go.Proofs.YtifdlbdecjlnaaaDoor
namespace Rows

/-- THE TIED CARD OF 'colloquylaw14.TextParses'. -/
def textParsesCard : Claim7 := { stood := { row := textParsesRow, standIns := [], harness := (true, "45425d08432868c48996ea5a89de583eb3e1b73d06de418a219c01ca96b47d8d"), looks := true }, kinds := [], alts := [], laidByText := true, laidKinds := [.data, .data, .data, .data, .sentinel, .sentinel, .pinned], laidTests := true, laidLooks := .later }
def TextParsesCardSaid : Prop := Claim7.holds Tryd.pinned (.plain (OpenSpec.ofChange textParsesSpec)) textParsesCard

/-- THE TIED CARD OF 'colloquylaw14.TextJoins'. -/
def textJoinsCard : Claim7 := { stood := { row := textJoinsRow, standIns := [], harness := (true, "45425d08432868c48996ea5a89de583eb3e1b73d06de418a219c01ca96b47d8d"), looks := true }, kinds := [], alts := [], laidByText := true, laidKinds := [.data, .data, .data, .data, .sentinel, .sentinel, .pinned], laidTests := true, laidLooks := .later }
def TextJoinsCardSaid : Prop := Claim7.holds Tryd.pinned (.plain (OpenSpec.ofChange textJoinsSpec)) textJoinsCard

/-- THE TIED CARD OF 'colloquylaw14.TextLong'. -/
def textLongCard : Claim7 := { stood := { row := textLongRow, standIns := [], harness := (true, "45425d08432868c48996ea5a89de583eb3e1b73d06de418a219c01ca96b47d8d"), looks := true }, kinds := [], alts := [], laidByText := true, laidKinds := [.data, .data, .data, .data, .sentinel, .sentinel, .pinned], laidTests := true, laidLooks := .later }
def TextLongCardSaid : Prop := Claim7.holds Tryd.pinned (.plain (OpenSpec.ofChange textLongSpec)) textLongCard

/-- THE TIED CARD OF 'colloquylaw14.TextShows'. -/
def textShowsCard : Claim7 := { stood := { row := textShowsRow, standIns := [], harness := (true, "45425d08432868c48996ea5a89de583eb3e1b73d06de418a219c01ca96b47d8d"), looks := true }, kinds := [], alts := [], laidByText := true, laidKinds := [.data, .data, .data, .data, .sentinel, .sentinel, .pinned], laidTests := true, laidLooks := .later }
def TextShowsCardSaid : Prop := Claim7.holds Tryd.pinned (.plain (OpenSpec.ofChange textShowsSpec)) textShowsCard

/-- THE TIED CARD OF 'colloquylaw14.TextBack'. -/
def textBackCard : Claim7 := { stood := { row := textBackRow, standIns := [], harness := (true, "45425d08432868c48996ea5a89de583eb3e1b73d06de418a219c01ca96b47d8d"), looks := true }, kinds := [], alts := [], laidByText := true, laidKinds := [.data, .data, .data, .data, .sentinel, .sentinel, .pinned], laidTests := true, laidLooks := .later }
def TextBackCardSaid : Prop := Claim7.holds Tryd.pinned (.plain (OpenSpec.ofChange textBackSpec)) textBackCard

/-- THE TIED CARD OF 'colloquylaw14.TextOnce'. -/
def textOnceCard : Claim7 := { stood := { row := textOnceRow, standIns := [], harness := (true, "45425d08432868c48996ea5a89de583eb3e1b73d06de418a219c01ca96b47d8d"), looks := true }, kinds := [], alts := [], laidByText := true, laidKinds := [.data, .data, .data, .data, .sentinel, .sentinel, .pinned], laidTests := true, laidLooks := .later }
def TextOnceCardSaid : Prop := Claim7.holds Tryd.pinned (.plain (OpenSpec.ofChange textOnceSpec)) textOnceCard

/-- THE SECOND FORM's CARD OF 'colloquylaw14.TextParses'. -/
def textParsesUptoCard : Claim7 := { stood := { row := textParsesUptoRow, standIns := [], harness := (true, "45425d08432868c48996ea5a89de583eb3e1b73d06de418a219c01ca96b47d8d"), looks := true }, kinds := [], alts := [], laidByText := true, laidKinds := [.data, .data, .data, .data, .sentinel, .sentinel, .pinned], laidTests := true, laidLooks := .later }
def TextParsesUptoCardSaid : Prop := Claim7.holds Tryd.pinned (.plain (OpenSpec.upto textParsesSpec)) textParsesUptoCard

/-- THE SECOND FORM's CARD OF 'colloquylaw14.TextJoins'. -/
def textJoinsUptoCard : Claim7 := { stood := { row := textJoinsUptoRow, standIns := [], harness := (true, "45425d08432868c48996ea5a89de583eb3e1b73d06de418a219c01ca96b47d8d"), looks := true }, kinds := [], alts := [], laidByText := true, laidKinds := [.data, .data, .data, .data, .sentinel, .sentinel, .pinned], laidTests := true, laidLooks := .later }
def TextJoinsUptoCardSaid : Prop := Claim7.holds Tryd.pinned (.plain (OpenSpec.upto textJoinsSpec)) textJoinsUptoCard

/-- THE SECOND FORM's CARD OF 'colloquylaw14.TextLong'. -/
def textLongUptoCard : Claim7 := { stood := { row := textLongUptoRow, standIns := [], harness := (true, "45425d08432868c48996ea5a89de583eb3e1b73d06de418a219c01ca96b47d8d"), looks := true }, kinds := [], alts := [], laidByText := true, laidKinds := [.data, .data, .data, .data, .sentinel, .sentinel, .pinned], laidTests := true, laidLooks := .later }
def TextLongUptoCardSaid : Prop := Claim7.holds Tryd.pinned (.plain (OpenSpec.upto textLongSpec)) textLongUptoCard

/-- THE SECOND FORM's CARD OF 'colloquylaw14.TextShows'. -/
def textShowsUptoCard : Claim7 := { stood := { row := textShowsUptoRow, standIns := [], harness := (true, "45425d08432868c48996ea5a89de583eb3e1b73d06de418a219c01ca96b47d8d"), looks := true }, kinds := [], alts := [], laidByText := true, laidKinds := [.data, .data, .data, .data, .sentinel, .sentinel, .pinned], laidTests := true, laidLooks := .later }
def TextShowsUptoCardSaid : Prop := Claim7.holds Tryd.pinned (.plain (OpenSpec.upto textShowsSpec)) textShowsUptoCard

/-- THE SECOND FORM's CARD OF 'colloquylaw14.TextBack'. -/
def textBackUptoCard : Claim7 := { stood := { row := textBackUptoRow, standIns := [], harness := (true, "45425d08432868c48996ea5a89de583eb3e1b73d06de418a219c01ca96b47d8d"), looks := true }, kinds := [], alts := [], laidByText := true, laidKinds := [.data, .data, .data, .data, .sentinel, .sentinel, .pinned], laidTests := true, laidLooks := .later }
def TextBackUptoCardSaid : Prop := Claim7.holds Tryd.pinned (.plain (OpenSpec.upto textBackSpec)) textBackUptoCard

/-- THE SECOND FORM's CARD OF 'colloquylaw14.TextOnce'. -/
def textOnceUptoCard : Claim7 := { stood := { row := textOnceUptoRow, standIns := [], harness := (true, "45425d08432868c48996ea5a89de583eb3e1b73d06de418a219c01ca96b47d8d"), looks := true }, kinds := [], alts := [], laidByText := true, laidKinds := [.data, .data, .data, .data, .sentinel, .sentinel, .pinned], laidTests := true, laidLooks := .later }
def TextOnceUptoCardSaid : Prop := Claim7.holds Tryd.pinned (.plain (OpenSpec.upto textOnceSpec)) textOnceUptoCard
end Rows
end Go.Proofs.YtifdlbdecjlnaaaDoor

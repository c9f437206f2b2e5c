/-
  DERIVED. GIVEN WITH THE SEED: THE CARDS: each row of YtomfdejamngkjaaDoorRows.lean that lists a variable, with what it lists TIED to the program's text (the seventh form; the later family's looks); each row that meets fmt, with fmt's text TOLD by the authors' own Lean function (tested against real Go, not proved from fmt's source: count such statements apart). THE CARD IS WHAT COUNTS. Prove the row's statement (the work); the ties are given (YtomfdejamngkjaaDoorTie.lean); close each card by the builder's one call (the guide's Derived/Test/ToyasCard.lean, 'card_holds'). Laid BY PROGRAM, IN A SANDBOX (cutbox-door.mjs). By AI agents, Wed Nov 11 2026. No macro, syntax, notation, axiom, sorry.
-/
import Derived.Test.YtomfdejamngkjaaDoorRows
import GoSem.ClaimSeven
namespace Go.Proofs.YtomfdejamngkjaaDoor
namespace Rows

/-- THE TIED CARD OF 'muslinlaw06.LinesCut'. -/
def linesCutCard : Claim7 := { stood := { row := linesCutRow, standIns := [], harness := (true, "d586a83565be3a24896e77b079410c5422c9f86785c79c158ea0a68fa1ea2051"), looks := false }, kinds := [], alts := [], laidByText := true, laidKinds := [.data, .pinned], laidTests := true, laidLooks := .later }
def LinesCutCardSaid : Prop := Claim7.holds Tryd.pinned (.plain (OpenSpec.ofChange linesCutSpec)) linesCutCard

/-- THE TIED CARD OF 'muslinlaw06.LinesGet'. -/
def linesGetCard : Claim7 := { stood := { row := linesGetRow, standIns := [], harness := (true, "d586a83565be3a24896e77b079410c5422c9f86785c79c158ea0a68fa1ea2051"), looks := false }, kinds := [], alts := [], laidByText := true, laidKinds := [.data, .pinned], laidTests := true, laidLooks := .later }
def LinesGetCardSaid : Prop := Claim7.holds Tryd.pinned (.plain (OpenSpec.ofChange linesGetSpec)) linesGetCard

/-- THE TIED CARD OF 'muslinlaw06.LinesHeads'. -/
def linesHeadsCard : Claim7 := { stood := { row := linesHeadsRow, standIns := [], harness := (true, "d586a83565be3a24896e77b079410c5422c9f86785c79c158ea0a68fa1ea2051"), looks := false }, kinds := [], alts := [], laidByText := true, laidKinds := [.data, .pinned], laidTests := true, laidLooks := .later }
def LinesHeadsCardSaid : Prop := Claim7.holds Tryd.pinned (.plain (OpenSpec.ofChange linesHeadsSpec)) linesHeadsCard

/-- THE TIED CARD OF 'muslinlaw06.LinesWrites'. -/
def linesWritesCard : Claim7 := { stood := { row := linesWritesRow, standIns := [], harness := (true, "d586a83565be3a24896e77b079410c5422c9f86785c79c158ea0a68fa1ea2051"), looks := false }, kinds := [], alts := [], laidByText := true, laidKinds := [.data, .pinned], laidTests := true, laidLooks := .later }
def LinesWritesCardSaid : Prop := Claim7.holds Tryd.pinned (.plain (OpenSpec.ofChange linesWritesSpec)) linesWritesCard

/-- THE TIED CARD OF 'muslinlaw06.LinesBack'. -/
def linesBackCard : Claim7 := { stood := { row := linesBackRow, standIns := [], harness := (true, "d586a83565be3a24896e77b079410c5422c9f86785c79c158ea0a68fa1ea2051"), looks := false }, kinds := [], alts := [], laidByText := true, laidKinds := [.data, .pinned], laidTests := true, laidLooks := .later }
def LinesBackCardSaid : Prop := Claim7.holds Tryd.pinned (.plain (OpenSpec.ofChange linesBackSpec)) linesBackCard

/-- THE TIED CARD OF 'muslinlaw06.LinesAgain'. -/
def linesAgainCard : Claim7 := { stood := { row := linesAgainRow, standIns := [], harness := (true, "d586a83565be3a24896e77b079410c5422c9f86785c79c158ea0a68fa1ea2051"), looks := false }, kinds := [], alts := [], laidByText := true, laidKinds := [.data, .pinned], laidTests := true, laidLooks := .later }
def LinesAgainCardSaid : Prop := Claim7.holds Tryd.pinned (.plain (OpenSpec.ofChange linesAgainSpec)) linesAgainCard

/-- THE SECOND FORM's CARD OF 'muslinlaw06.LinesCut'. -/
def linesCutUptoCard : Claim7 := { stood := { row := linesCutUptoRow, standIns := [], harness := (true, "d586a83565be3a24896e77b079410c5422c9f86785c79c158ea0a68fa1ea2051"), looks := false }, kinds := [], alts := [], laidByText := true, laidKinds := [.data, .pinned], laidTests := true, laidLooks := .later }
def LinesCutUptoCardSaid : Prop := Claim7.holds Tryd.pinned (.plain (OpenSpec.upto linesCutSpec)) linesCutUptoCard

/-- THE SECOND FORM's CARD OF 'muslinlaw06.LinesGet'. -/
def linesGetUptoCard : Claim7 := { stood := { row := linesGetUptoRow, standIns := [], harness := (true, "d586a83565be3a24896e77b079410c5422c9f86785c79c158ea0a68fa1ea2051"), looks := false }, kinds := [], alts := [], laidByText := true, laidKinds := [.data, .pinned], laidTests := true, laidLooks := .later }
def LinesGetUptoCardSaid : Prop := Claim7.holds Tryd.pinned (.plain (OpenSpec.upto linesGetSpec)) linesGetUptoCard

/-- THE SECOND FORM's CARD OF 'muslinlaw06.LinesHeads'. -/
def linesHeadsUptoCard : Claim7 := { stood := { row := linesHeadsUptoRow, standIns := [], harness := (true, "d586a83565be3a24896e77b079410c5422c9f86785c79c158ea0a68fa1ea2051"), looks := false }, kinds := [], alts := [], laidByText := true, laidKinds := [.data, .pinned], laidTests := true, laidLooks := .later }
def LinesHeadsUptoCardSaid : Prop := Claim7.holds Tryd.pinned (.plain (OpenSpec.upto linesHeadsSpec)) linesHeadsUptoCard

/-- THE SECOND FORM's CARD OF 'muslinlaw06.LinesWrites'. -/
def linesWritesUptoCard : Claim7 := { stood := { row := linesWritesUptoRow, standIns := [], harness := (true, "d586a83565be3a24896e77b079410c5422c9f86785c79c158ea0a68fa1ea2051"), looks := false }, kinds := [], alts := [], laidByText := true, laidKinds := [.data, .pinned], laidTests := true, laidLooks := .later }
def LinesWritesUptoCardSaid : Prop := Claim7.holds Tryd.pinned (.plain (OpenSpec.upto linesWritesSpec)) linesWritesUptoCard

/-- THE SECOND FORM's CARD OF 'muslinlaw06.LinesBack'. -/
def linesBackUptoCard : Claim7 := { stood := { row := linesBackUptoRow, standIns := [], harness := (true, "d586a83565be3a24896e77b079410c5422c9f86785c79c158ea0a68fa1ea2051"), looks := false }, kinds := [], alts := [], laidByText := true, laidKinds := [.data, .pinned], laidTests := true, laidLooks := .later }
def LinesBackUptoCardSaid : Prop := Claim7.holds Tryd.pinned (.plain (OpenSpec.upto linesBackSpec)) linesBackUptoCard

/-- THE SECOND FORM's CARD OF 'muslinlaw06.LinesAgain'. -/
def linesAgainUptoCard : Claim7 := { stood := { row := linesAgainUptoRow, standIns := [], harness := (true, "d586a83565be3a24896e77b079410c5422c9f86785c79c158ea0a68fa1ea2051"), looks := false }, kinds := [], alts := [], laidByText := true, laidKinds := [.data, .pinned], laidTests := true, laidLooks := .later }
def LinesAgainUptoCardSaid : Prop := Claim7.holds Tryd.pinned (.plain (OpenSpec.upto linesAgainSpec)) linesAgainUptoCard
end Rows
end Go.Proofs.YtomfdejamngkjaaDoor

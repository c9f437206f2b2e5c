/-
  DERIVED. GIVEN WITH THE SEED: THE CARDS: each row of YtollfaphadcnnaaDoorRows.lean that lists a variable, with what it lists TIED to the program's text (the seventh form; the later family's looks); each row that meets fmt, with fmt's text TOLD by the authors' own Lean function (tested against real Go, not proved from fmt's source: count such statements apart). THE CARD IS WHAT COUNTS. Prove the row's statement (the work); the ties are given (YtollfaphadcnnaaDoorTie.lean); close each card by the builder's one call (the guide's Derived/Test/ToyasCard.lean, 'card_holds'). Laid BY PROGRAM, IN A SANDBOX (cutbox-door.mjs). By AI agents, Wed Nov 11 2026. No macro, syntax, notation, axiom, sorry.
-/
import Derived.Test.YtollfaphadcnnaaDoorRows
import GoSem.ClaimSeven
namespace Go.Proofs.YtollfaphadcnnaaDoor
namespace Rows

/-- THE TIED CARD OF 'muslinlaw17.CssCuts'. -/
def cssCutsCard : Claim7 := { stood := { row := cssCutsRow, standIns := [], harness := (true, "5469605c6bffe68c3fae383ee8f42107f264af36f0852a6badc0db78909f4b18"), looks := false }, kinds := [], alts := [], laidByText := true, laidKinds := [.data, .widerDeep, .pinned], laidTests := true, laidLooks := .later }
def CssCutsCardSaid : Prop := Claim7.holds Tryd.pinned (.plain (OpenSpec.ofChange cssCutsSpec)) cssCutsCard

/-- THE TIED CARD OF 'muslinlaw17.CssSafe'. -/
def cssSafeCard : Claim7 := { stood := { row := cssSafeRow, standIns := [], harness := (true, "5469605c6bffe68c3fae383ee8f42107f264af36f0852a6badc0db78909f4b18"), looks := false }, kinds := [], alts := [], laidByText := true, laidKinds := [.data, .widerDeep, .pinned], laidTests := true, laidLooks := .later }
def CssSafeCardSaid : Prop := Claim7.holds Tryd.pinned (.plain (OpenSpec.ofChange cssSafeSpec)) cssSafeCard

/-- THE TIED CARD OF 'muslinlaw17.CssStays'. -/
def cssStaysCard : Claim7 := { stood := { row := cssStaysRow, standIns := [], harness := (true, "5469605c6bffe68c3fae383ee8f42107f264af36f0852a6badc0db78909f4b18"), looks := false }, kinds := [], alts := [], laidByText := true, laidKinds := [.data, .widerDeep, .pinned], laidTests := true, laidLooks := .later }
def CssStaysCardSaid : Prop := Claim7.holds Tryd.pinned (.plain (OpenSpec.ofChange cssStaysSpec)) cssStaysCard

/-- THE TIED CARD OF 'muslinlaw17.CssOnce'. -/
def cssOnceCard : Claim7 := { stood := { row := cssOnceRow, standIns := [], harness := (true, "5469605c6bffe68c3fae383ee8f42107f264af36f0852a6badc0db78909f4b18"), looks := false }, kinds := [], alts := [], laidByText := true, laidKinds := [.data, .widerDeep, .pinned], laidTests := true, laidLooks := .later }
def CssOnceCardSaid : Prop := Claim7.holds Tryd.pinned (.plain (OpenSpec.ofChange cssOnceSpec)) cssOnceCard

/-- THE TIED CARD OF 'muslinlaw17.CssJoined'. -/
def cssJoinedCard : Claim7 := { stood := { row := cssJoinedRow, standIns := [], harness := (true, "5469605c6bffe68c3fae383ee8f42107f264af36f0852a6badc0db78909f4b18"), looks := false }, kinds := [], alts := [], laidByText := true, laidKinds := [.data, .widerDeep, .pinned], laidTests := true, laidLooks := .later }
def CssJoinedCardSaid : Prop := Claim7.holds Tryd.pinned (.plain (OpenSpec.ofChange cssJoinedSpec)) cssJoinedCard

/-- THE TIED CARD OF 'muslinlaw17.CssOne'. -/
def cssOneCard : Claim7 := { stood := { row := cssOneRow, standIns := [], harness := (true, "5469605c6bffe68c3fae383ee8f42107f264af36f0852a6badc0db78909f4b18"), looks := false }, kinds := [], alts := [], laidByText := true, laidKinds := [.data, .widerDeep, .pinned], laidTests := true, laidLooks := .later }
def CssOneCardSaid : Prop := Claim7.holds Tryd.pinned (.plain (OpenSpec.ofChange cssOneSpec)) cssOneCard

/-- THE SECOND FORM's CARD OF 'muslinlaw17.CssCuts'. -/
def cssCutsUptoCard : Claim7 := { stood := { row := cssCutsUptoRow, standIns := [], harness := (true, "5469605c6bffe68c3fae383ee8f42107f264af36f0852a6badc0db78909f4b18"), looks := false }, kinds := [], alts := [], laidByText := true, laidKinds := [.data, .widerDeep, .pinned], laidTests := true, laidLooks := .later }
def CssCutsUptoCardSaid : Prop := Claim7.holds Tryd.pinned (.plain (OpenSpec.upto cssCutsSpec)) cssCutsUptoCard

/-- THE SECOND FORM's CARD OF 'muslinlaw17.CssSafe'. -/
def cssSafeUptoCard : Claim7 := { stood := { row := cssSafeUptoRow, standIns := [], harness := (true, "5469605c6bffe68c3fae383ee8f42107f264af36f0852a6badc0db78909f4b18"), looks := false }, kinds := [], alts := [], laidByText := true, laidKinds := [.data, .widerDeep, .pinned], laidTests := true, laidLooks := .later }
def CssSafeUptoCardSaid : Prop := Claim7.holds Tryd.pinned (.plain (OpenSpec.upto cssSafeSpec)) cssSafeUptoCard

/-- THE SECOND FORM's CARD OF 'muslinlaw17.CssStays'. -/
def cssStaysUptoCard : Claim7 := { stood := { row := cssStaysUptoRow, standIns := [], harness := (true, "5469605c6bffe68c3fae383ee8f42107f264af36f0852a6badc0db78909f4b18"), looks := false }, kinds := [], alts := [], laidByText := true, laidKinds := [.data, .widerDeep, .pinned], laidTests := true, laidLooks := .later }
def CssStaysUptoCardSaid : Prop := Claim7.holds Tryd.pinned (.plain (OpenSpec.upto cssStaysSpec)) cssStaysUptoCard

/-- THE SECOND FORM's CARD OF 'muslinlaw17.CssOnce'. -/
def cssOnceUptoCard : Claim7 := { stood := { row := cssOnceUptoRow, standIns := [], harness := (true, "5469605c6bffe68c3fae383ee8f42107f264af36f0852a6badc0db78909f4b18"), looks := false }, kinds := [], alts := [], laidByText := true, laidKinds := [.data, .widerDeep, .pinned], laidTests := true, laidLooks := .later }
def CssOnceUptoCardSaid : Prop := Claim7.holds Tryd.pinned (.plain (OpenSpec.upto cssOnceSpec)) cssOnceUptoCard

/-- THE SECOND FORM's CARD OF 'muslinlaw17.CssJoined'. -/
def cssJoinedUptoCard : Claim7 := { stood := { row := cssJoinedUptoRow, standIns := [], harness := (true, "5469605c6bffe68c3fae383ee8f42107f264af36f0852a6badc0db78909f4b18"), looks := false }, kinds := [], alts := [], laidByText := true, laidKinds := [.data, .widerDeep, .pinned], laidTests := true, laidLooks := .later }
def CssJoinedUptoCardSaid : Prop := Claim7.holds Tryd.pinned (.plain (OpenSpec.upto cssJoinedSpec)) cssJoinedUptoCard

/-- THE SECOND FORM's CARD OF 'muslinlaw17.CssOne'. -/
def cssOneUptoCard : Claim7 := { stood := { row := cssOneUptoRow, standIns := [], harness := (true, "5469605c6bffe68c3fae383ee8f42107f264af36f0852a6badc0db78909f4b18"), looks := false }, kinds := [], alts := [], laidByText := true, laidKinds := [.data, .widerDeep, .pinned], laidTests := true, laidLooks := .later }
def CssOneUptoCardSaid : Prop := Claim7.holds Tryd.pinned (.plain (OpenSpec.upto cssOneSpec)) cssOneUptoCard
end Rows
end Go.Proofs.YtollfaphadcnnaaDoor

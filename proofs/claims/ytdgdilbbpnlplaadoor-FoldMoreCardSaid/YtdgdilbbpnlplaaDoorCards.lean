/-
  DERIVED. GIVEN WITH THE SEED: THE CARDS: each row of YtdgdilbbpnlplaaDoorRows.lean that lists a variable, with what it lists TIED to the program's text (the seventh form; the later family's looks); each row that meets fmt, with fmt's text TOLD by the authors' own Lean function (tested against real Go, not proved from fmt's source: count such statements apart). THE CARD IS WHAT COUNTS. Prove the row's statement (the work); the ties are given (YtdgdilbbpnlplaaDoorTie.lean); close each card by the builder's one call (the guide's Derived/Test/ToyasCard.lean, 'card_holds'). Laid BY PROGRAM, IN A SANDBOX (cutbox-door.mjs). By AI agents, Wed Nov 11 2026. No macro, syntax, notation, axiom, sorry.
-/
import Derived.Test.YtdgdilbbpnlplaaDoorRows
import GoSem.ClaimSeven
namespace Go.Proofs.YtdgdilbbpnlplaaDoor
namespace Rows

/-- THE TIED CARD OF 'muslinlaw21.FoldAny'. -/
def foldAnyCard : Claim7 := { stood := { row := foldAnyRow, standIns := [], harness := (true, "0dcd0f0a393bc7301930da0ad1b18dfffa38102507e0cbfc369270e40ec6fd7d"), looks := false }, kinds := [], alts := [], laidByText := true, laidKinds := [.data, .data, .pinned], laidTests := true, laidLooks := .later }
def FoldAnyCardSaid : Prop := Claim7.holds Tryd.pinned (.plain (OpenSpec.ofChange foldAnySpec)) foldAnyCard

/-- THE TIED CARD OF 'muslinlaw21.FoldBack'. -/
def foldBackCard : Claim7 := { stood := { row := foldBackRow, standIns := [], harness := (true, "0dcd0f0a393bc7301930da0ad1b18dfffa38102507e0cbfc369270e40ec6fd7d"), looks := false }, kinds := [], alts := [], laidByText := true, laidKinds := [.data, .data, .pinned], laidTests := true, laidLooks := .later }
def FoldBackCardSaid : Prop := Claim7.holds Tryd.pinned (.plain (OpenSpec.ofChange foldBackSpec)) foldBackCard

/-- THE TIED CARD OF 'muslinlaw21.FoldOnce'. -/
def foldOnceCard : Claim7 := { stood := { row := foldOnceRow, standIns := [], harness := (true, "0dcd0f0a393bc7301930da0ad1b18dfffa38102507e0cbfc369270e40ec6fd7d"), looks := false }, kinds := [], alts := [], laidByText := true, laidKinds := [.data, .data, .pinned], laidTests := true, laidLooks := .later }
def FoldOnceCardSaid : Prop := Claim7.holds Tryd.pinned (.plain (OpenSpec.ofChange foldOnceSpec)) foldOnceCard

/-- THE TIED CARD OF 'muslinlaw21.FoldKeeps'. -/
def foldKeepsCard : Claim7 := { stood := { row := foldKeepsRow, standIns := [], harness := (true, "0dcd0f0a393bc7301930da0ad1b18dfffa38102507e0cbfc369270e40ec6fd7d"), looks := false }, kinds := [], alts := [], laidByText := true, laidKinds := [.data, .data, .pinned], laidTests := true, laidLooks := .later }
def FoldKeepsCardSaid : Prop := Claim7.holds Tryd.pinned (.plain (OpenSpec.ofChange foldKeepsSpec)) foldKeepsCard

/-- THE TIED CARD OF 'muslinlaw21.FoldMore'. -/
def foldMoreCard : Claim7 := { stood := { row := foldMoreRow, standIns := [], harness := (true, "0dcd0f0a393bc7301930da0ad1b18dfffa38102507e0cbfc369270e40ec6fd7d"), looks := false }, kinds := [], alts := [], laidByText := true, laidKinds := [.data, .data, .pinned], laidTests := true, laidLooks := .later }
def FoldMoreCardSaid : Prop := Claim7.holds Tryd.pinned (.plain (OpenSpec.ofChange foldMoreSpec)) foldMoreCard

/-- THE SECOND FORM's CARD OF 'muslinlaw21.FoldAny'. -/
def foldAnyUptoCard : Claim7 := { stood := { row := foldAnyUptoRow, standIns := [], harness := (true, "0dcd0f0a393bc7301930da0ad1b18dfffa38102507e0cbfc369270e40ec6fd7d"), looks := false }, kinds := [], alts := [], laidByText := true, laidKinds := [.data, .data, .pinned], laidTests := true, laidLooks := .later }
def FoldAnyUptoCardSaid : Prop := Claim7.holds Tryd.pinned (.plain (OpenSpec.upto foldAnySpec)) foldAnyUptoCard

/-- THE SECOND FORM's CARD OF 'muslinlaw21.FoldBack'. -/
def foldBackUptoCard : Claim7 := { stood := { row := foldBackUptoRow, standIns := [], harness := (true, "0dcd0f0a393bc7301930da0ad1b18dfffa38102507e0cbfc369270e40ec6fd7d"), looks := false }, kinds := [], alts := [], laidByText := true, laidKinds := [.data, .data, .pinned], laidTests := true, laidLooks := .later }
def FoldBackUptoCardSaid : Prop := Claim7.holds Tryd.pinned (.plain (OpenSpec.upto foldBackSpec)) foldBackUptoCard

/-- THE SECOND FORM's CARD OF 'muslinlaw21.FoldOnce'. -/
def foldOnceUptoCard : Claim7 := { stood := { row := foldOnceUptoRow, standIns := [], harness := (true, "0dcd0f0a393bc7301930da0ad1b18dfffa38102507e0cbfc369270e40ec6fd7d"), looks := false }, kinds := [], alts := [], laidByText := true, laidKinds := [.data, .data, .pinned], laidTests := true, laidLooks := .later }
def FoldOnceUptoCardSaid : Prop := Claim7.holds Tryd.pinned (.plain (OpenSpec.upto foldOnceSpec)) foldOnceUptoCard

/-- THE SECOND FORM's CARD OF 'muslinlaw21.FoldKeeps'. -/
def foldKeepsUptoCard : Claim7 := { stood := { row := foldKeepsUptoRow, standIns := [], harness := (true, "0dcd0f0a393bc7301930da0ad1b18dfffa38102507e0cbfc369270e40ec6fd7d"), looks := false }, kinds := [], alts := [], laidByText := true, laidKinds := [.data, .data, .pinned], laidTests := true, laidLooks := .later }
def FoldKeepsUptoCardSaid : Prop := Claim7.holds Tryd.pinned (.plain (OpenSpec.upto foldKeepsSpec)) foldKeepsUptoCard

/-- THE SECOND FORM's CARD OF 'muslinlaw21.FoldMore'. -/
def foldMoreUptoCard : Claim7 := { stood := { row := foldMoreUptoRow, standIns := [], harness := (true, "0dcd0f0a393bc7301930da0ad1b18dfffa38102507e0cbfc369270e40ec6fd7d"), looks := false }, kinds := [], alts := [], laidByText := true, laidKinds := [.data, .data, .pinned], laidTests := true, laidLooks := .later }
def FoldMoreUptoCardSaid : Prop := Claim7.holds Tryd.pinned (.plain (OpenSpec.upto foldMoreSpec)) foldMoreUptoCard
end Rows
end Go.Proofs.YtdgdilbbpnlplaaDoor

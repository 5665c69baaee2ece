/-
  DERIVED. GIVEN WITH THE SEED: THE CARDS: each row of YtgljhhlnnedmaaaDoorRows.lean that lists a variable, with what it lists TIED to the program's text (the seventh form; the later family's looks); each row that meets fmt, with fmt's text TOLD by the authors' own Lean function (tested against real Go, not proved from fmt's source: count such statements apart). THE CARD IS WHAT COUNTS. Prove the row's statement (the work); the ties are given (YtgljhhlnnedmaaaDoorTie.lean); close each card by the builder's one call (the guide's Derived/Test/ToyasCard.lean, 'card_holds'). Laid BY PROGRAM, IN A SANDBOX (cutbox-door.mjs). By AI agents, Wed Nov 11 2026. No macro, syntax, notation, axiom, sorry.
-/
import Derived.Test.YtgljhhlnnedmaaaDoorRows
import GoSem.ClaimSeven
namespace Go.Proofs.YtgljhhlnnedmaaaDoor
namespace Rows

/-- THE TIED CARD OF 'heronlaw01.RunesNames'. -/
def runesNamesCard : Claim7 := { stood := { row := runesNamesRow, standIns := [], harness := (true, "bbdf5d4da13367507347d16aaf8c10a1164de7a7bfbba8bf3332e9c7ed25e9f0"), looks := false }, kinds := [], alts := [], laidByText := true, laidKinds := [.data], laidTests := true, laidLooks := .later }
def RunesNamesCardSaid : Prop := Claim7.holds Tryd.pinned (.plain (OpenSpec.ofChange runesNamesSpec)) runesNamesCard

/-- THE TIED CARD OF 'heronlaw01.RunesCuts'. -/
def runesCutsCard : Claim7 := { stood := { row := runesCutsRow, standIns := [], harness := (true, "bbdf5d4da13367507347d16aaf8c10a1164de7a7bfbba8bf3332e9c7ed25e9f0"), looks := false }, kinds := [], alts := [], laidByText := true, laidKinds := [.data], laidTests := true, laidLooks := .later }
def RunesCutsCardSaid : Prop := Claim7.holds Tryd.pinned (.plain (OpenSpec.ofChange runesCutsSpec)) runesCutsCard

/-- THE TIED CARD OF 'heronlaw01.RunesBack'. -/
def runesBackCard : Claim7 := { stood := { row := runesBackRow, standIns := [], harness := (true, "bbdf5d4da13367507347d16aaf8c10a1164de7a7bfbba8bf3332e9c7ed25e9f0"), looks := false }, kinds := [], alts := [], laidByText := true, laidKinds := [.data], laidTests := true, laidLooks := .later }
def RunesBackCardSaid : Prop := Claim7.holds Tryd.pinned (.plain (OpenSpec.ofChange runesBackSpec)) runesBackCard

/-- THE TIED CARD OF 'heronlaw01.RunesEncodes'. -/
def runesEncodesCard : Claim7 := { stood := { row := runesEncodesRow, standIns := [], harness := (true, "bbdf5d4da13367507347d16aaf8c10a1164de7a7bfbba8bf3332e9c7ed25e9f0"), looks := false }, kinds := [], alts := [], laidByText := true, laidKinds := [.data], laidTests := true, laidLooks := .later }
def RunesEncodesCardSaid : Prop := Claim7.holds Tryd.pinned (.plain (OpenSpec.ofChange runesEncodesSpec)) runesEncodesCard

/-- THE TIED CARD OF 'heronlaw01.RunesOne'. -/
def runesOneCard : Claim7 := { stood := { row := runesOneRow, standIns := [], harness := (true, "bbdf5d4da13367507347d16aaf8c10a1164de7a7bfbba8bf3332e9c7ed25e9f0"), looks := false }, kinds := [], alts := [], laidByText := true, laidKinds := [.data], laidTests := true, laidLooks := .later }
def RunesOneCardSaid : Prop := Claim7.holds Tryd.pinned (.plain (OpenSpec.ofChange runesOneSpec)) runesOneCard

/-- THE TIED CARD OF 'heronlaw01.RunesSets'. -/
def runesSetsCard : Claim7 := { stood := { row := runesSetsRow, standIns := [], harness := (true, "bbdf5d4da13367507347d16aaf8c10a1164de7a7bfbba8bf3332e9c7ed25e9f0"), looks := false }, kinds := [], alts := [], laidByText := true, laidKinds := [.data], laidTests := true, laidLooks := .later }
def RunesSetsCardSaid : Prop := Claim7.holds Tryd.pinned (.plain (OpenSpec.ofChange runesSetsSpec)) runesSetsCard

/-- THE SECOND FORM's CARD OF 'heronlaw01.RunesNames'. -/
def runesNamesUptoCard : Claim7 := { stood := { row := runesNamesUptoRow, standIns := [], harness := (true, "bbdf5d4da13367507347d16aaf8c10a1164de7a7bfbba8bf3332e9c7ed25e9f0"), looks := false }, kinds := [], alts := [], laidByText := true, laidKinds := [.data], laidTests := true, laidLooks := .later }
def RunesNamesUptoCardSaid : Prop := Claim7.holds Tryd.pinned (.plain (OpenSpec.upto runesNamesSpec)) runesNamesUptoCard

/-- THE SECOND FORM's CARD OF 'heronlaw01.RunesCuts'. -/
def runesCutsUptoCard : Claim7 := { stood := { row := runesCutsUptoRow, standIns := [], harness := (true, "bbdf5d4da13367507347d16aaf8c10a1164de7a7bfbba8bf3332e9c7ed25e9f0"), looks := false }, kinds := [], alts := [], laidByText := true, laidKinds := [.data], laidTests := true, laidLooks := .later }
def RunesCutsUptoCardSaid : Prop := Claim7.holds Tryd.pinned (.plain (OpenSpec.upto runesCutsSpec)) runesCutsUptoCard

/-- THE SECOND FORM's CARD OF 'heronlaw01.RunesBack'. -/
def runesBackUptoCard : Claim7 := { stood := { row := runesBackUptoRow, standIns := [], harness := (true, "bbdf5d4da13367507347d16aaf8c10a1164de7a7bfbba8bf3332e9c7ed25e9f0"), looks := false }, kinds := [], alts := [], laidByText := true, laidKinds := [.data], laidTests := true, laidLooks := .later }
def RunesBackUptoCardSaid : Prop := Claim7.holds Tryd.pinned (.plain (OpenSpec.upto runesBackSpec)) runesBackUptoCard

/-- THE SECOND FORM's CARD OF 'heronlaw01.RunesEncodes'. -/
def runesEncodesUptoCard : Claim7 := { stood := { row := runesEncodesUptoRow, standIns := [], harness := (true, "bbdf5d4da13367507347d16aaf8c10a1164de7a7bfbba8bf3332e9c7ed25e9f0"), looks := false }, kinds := [], alts := [], laidByText := true, laidKinds := [.data], laidTests := true, laidLooks := .later }
def RunesEncodesUptoCardSaid : Prop := Claim7.holds Tryd.pinned (.plain (OpenSpec.upto runesEncodesSpec)) runesEncodesUptoCard

/-- THE SECOND FORM's CARD OF 'heronlaw01.RunesOne'. -/
def runesOneUptoCard : Claim7 := { stood := { row := runesOneUptoRow, standIns := [], harness := (true, "bbdf5d4da13367507347d16aaf8c10a1164de7a7bfbba8bf3332e9c7ed25e9f0"), looks := false }, kinds := [], alts := [], laidByText := true, laidKinds := [.data], laidTests := true, laidLooks := .later }
def RunesOneUptoCardSaid : Prop := Claim7.holds Tryd.pinned (.plain (OpenSpec.upto runesOneSpec)) runesOneUptoCard

/-- THE SECOND FORM's CARD OF 'heronlaw01.RunesSets'. -/
def runesSetsUptoCard : Claim7 := { stood := { row := runesSetsUptoRow, standIns := [], harness := (true, "bbdf5d4da13367507347d16aaf8c10a1164de7a7bfbba8bf3332e9c7ed25e9f0"), looks := false }, kinds := [], alts := [], laidByText := true, laidKinds := [.data], laidTests := true, laidLooks := .later }
def RunesSetsUptoCardSaid : Prop := Claim7.holds Tryd.pinned (.plain (OpenSpec.upto runesSetsSpec)) runesSetsUptoCard
end Rows
end Go.Proofs.YtgljhhlnnedmaaaDoor

/-
  DERIVED. GIVEN WITH THE SEED: THE CARDS: each row of YtcnebanpnnblbaaDoorRows.lean that lists a variable, with what it lists TIED to the program's text (the seventh form; the later family's looks); each row that meets fmt, with fmt's text TOLD by the authors' own Lean function (tested against real Go, not proved from fmt's source: count such statements apart). THE CARD IS WHAT COUNTS. Prove the row's statement (the work); the ties are given (YtcnebanpnnblbaaDoorTie.lean); close each card by the builder's one call (the guide's Derived/Test/ToyasCard.lean, 'card_holds'). Laid BY PROGRAM, IN A SANDBOX (cutbox-door.mjs). By AI agents, Wed Nov 11 2026. No macro, syntax, notation, axiom, sorry.
-/
import Derived.Test.YtcnebanpnnblbaaDoorRows
import GoSem.ClaimSeven
namespace Go.Proofs.YtcnebanpnnblbaaDoor
namespace Rows

/-- THE TIED CARD OF 'gloaminglaw04.GridParses'. -/
def gridParsesCard : Claim7 := { stood := { row := gridParsesRow, standIns := [], harness := (true, "10c172bf5bdf7d6ed13e8f69353f3374ca2ec148934b1245033839cd6aa011e8"), looks := true }, kinds := [], alts := [], laidByText := true, laidKinds := [.data, .data, .data, .data, .sentinel, .sentinel, .pinned], laidTests := true, laidLooks := .later }
def GridParsesCardSaid : Prop := Claim7.holds Tryd.pinned (.plain (OpenSpec.ofChange gridParsesSpec)) gridParsesCard

/-- THE TIED CARD OF 'gloaminglaw04.GridEdits'. -/
def gridEditsCard : Claim7 := { stood := { row := gridEditsRow, standIns := [], harness := (true, "10c172bf5bdf7d6ed13e8f69353f3374ca2ec148934b1245033839cd6aa011e8"), looks := true }, kinds := [], alts := [], laidByText := true, laidKinds := [.data, .data, .data, .data, .sentinel, .sentinel, .pinned], laidTests := true, laidLooks := .later }
def GridEditsCardSaid : Prop := Claim7.holds Tryd.pinned (.plain (OpenSpec.ofChange gridEditsSpec)) gridEditsCard

/-- THE TIED CARD OF 'gloaminglaw04.GridTurned'. -/
def gridTurnedCard : Claim7 := { stood := { row := gridTurnedRow, standIns := [], harness := (true, "10c172bf5bdf7d6ed13e8f69353f3374ca2ec148934b1245033839cd6aa011e8"), looks := true }, kinds := [], alts := [], laidByText := true, laidKinds := [.data, .data, .data, .data, .sentinel, .sentinel, .pinned], laidTests := true, laidLooks := .later }
def GridTurnedCardSaid : Prop := Claim7.holds Tryd.pinned (.plain (OpenSpec.ofChange gridTurnedSpec)) gridTurnedCard

/-- THE TIED CARD OF 'gloaminglaw04.GridLast'. -/
def gridLastCard : Claim7 := { stood := { row := gridLastRow, standIns := [], harness := (true, "10c172bf5bdf7d6ed13e8f69353f3374ca2ec148934b1245033839cd6aa011e8"), looks := true }, kinds := [], alts := [], laidByText := true, laidKinds := [.data, .data, .data, .data, .sentinel, .sentinel, .pinned], laidTests := true, laidLooks := .later }
def GridLastCardSaid : Prop := Claim7.holds Tryd.pinned (.plain (OpenSpec.ofChange gridLastSpec)) gridLastCard

/-- THE TIED CARD OF 'gloaminglaw04.GridNil'. -/
def gridNilCard : Claim7 := { stood := { row := gridNilRow, standIns := [], harness := (true, "10c172bf5bdf7d6ed13e8f69353f3374ca2ec148934b1245033839cd6aa011e8"), looks := true }, kinds := [], alts := [], laidByText := true, laidKinds := [.data, .data, .data, .data, .sentinel, .sentinel, .pinned], laidTests := true, laidLooks := .later }
def GridNilCardSaid : Prop := Claim7.holds Tryd.pinned (.plain (OpenSpec.ofChange gridNilSpec)) gridNilCard

/-- THE TIED CARD OF 'gloaminglaw04.GridPrints'. -/
def gridPrintsCard : Claim7 := { stood := { row := gridPrintsRow, standIns := [], harness := (true, "10c172bf5bdf7d6ed13e8f69353f3374ca2ec148934b1245033839cd6aa011e8"), looks := true }, kinds := [], alts := [], laidByText := true, laidKinds := [.data, .data, .data, .data, .sentinel, .sentinel, .pinned], laidTests := true, laidLooks := .later }
def GridPrintsCardSaid : Prop := Claim7.holds Tryd.pinned (.plain (OpenSpec.ofChange gridPrintsSpec)) gridPrintsCard

/-- THE TIED CARD OF 'gloaminglaw04.GridBack'. -/
def gridBackCard : Claim7 := { stood := { row := gridBackRow, standIns := [], harness := (true, "10c172bf5bdf7d6ed13e8f69353f3374ca2ec148934b1245033839cd6aa011e8"), looks := true }, kinds := [], alts := [], laidByText := true, laidKinds := [.data, .data, .data, .data, .sentinel, .sentinel, .pinned], laidTests := true, laidLooks := .later }
def GridBackCardSaid : Prop := Claim7.holds Tryd.pinned (.plain (OpenSpec.ofChange gridBackSpec)) gridBackCard

/-- THE SECOND FORM's CARD OF 'gloaminglaw04.GridParses'. -/
def gridParsesUptoCard : Claim7 := { stood := { row := gridParsesUptoRow, standIns := [], harness := (true, "10c172bf5bdf7d6ed13e8f69353f3374ca2ec148934b1245033839cd6aa011e8"), looks := true }, kinds := [], alts := [], laidByText := true, laidKinds := [.data, .data, .data, .data, .sentinel, .sentinel, .pinned], laidTests := true, laidLooks := .later }
def GridParsesUptoCardSaid : Prop := Claim7.holds Tryd.pinned (.plain (OpenSpec.upto gridParsesSpec)) gridParsesUptoCard

/-- THE SECOND FORM's CARD OF 'gloaminglaw04.GridEdits'. -/
def gridEditsUptoCard : Claim7 := { stood := { row := gridEditsUptoRow, standIns := [], harness := (true, "10c172bf5bdf7d6ed13e8f69353f3374ca2ec148934b1245033839cd6aa011e8"), looks := true }, kinds := [], alts := [], laidByText := true, laidKinds := [.data, .data, .data, .data, .sentinel, .sentinel, .pinned], laidTests := true, laidLooks := .later }
def GridEditsUptoCardSaid : Prop := Claim7.holds Tryd.pinned (.plain (OpenSpec.upto gridEditsSpec)) gridEditsUptoCard

/-- THE SECOND FORM's CARD OF 'gloaminglaw04.GridTurned'. -/
def gridTurnedUptoCard : Claim7 := { stood := { row := gridTurnedUptoRow, standIns := [], harness := (true, "10c172bf5bdf7d6ed13e8f69353f3374ca2ec148934b1245033839cd6aa011e8"), looks := true }, kinds := [], alts := [], laidByText := true, laidKinds := [.data, .data, .data, .data, .sentinel, .sentinel, .pinned], laidTests := true, laidLooks := .later }
def GridTurnedUptoCardSaid : Prop := Claim7.holds Tryd.pinned (.plain (OpenSpec.upto gridTurnedSpec)) gridTurnedUptoCard

/-- THE SECOND FORM's CARD OF 'gloaminglaw04.GridLast'. -/
def gridLastUptoCard : Claim7 := { stood := { row := gridLastUptoRow, standIns := [], harness := (true, "10c172bf5bdf7d6ed13e8f69353f3374ca2ec148934b1245033839cd6aa011e8"), looks := true }, kinds := [], alts := [], laidByText := true, laidKinds := [.data, .data, .data, .data, .sentinel, .sentinel, .pinned], laidTests := true, laidLooks := .later }
def GridLastUptoCardSaid : Prop := Claim7.holds Tryd.pinned (.plain (OpenSpec.upto gridLastSpec)) gridLastUptoCard

/-- THE SECOND FORM's CARD OF 'gloaminglaw04.GridNil'. -/
def gridNilUptoCard : Claim7 := { stood := { row := gridNilUptoRow, standIns := [], harness := (true, "10c172bf5bdf7d6ed13e8f69353f3374ca2ec148934b1245033839cd6aa011e8"), looks := true }, kinds := [], alts := [], laidByText := true, laidKinds := [.data, .data, .data, .data, .sentinel, .sentinel, .pinned], laidTests := true, laidLooks := .later }
def GridNilUptoCardSaid : Prop := Claim7.holds Tryd.pinned (.plain (OpenSpec.upto gridNilSpec)) gridNilUptoCard

/-- THE SECOND FORM's CARD OF 'gloaminglaw04.GridPrints'. -/
def gridPrintsUptoCard : Claim7 := { stood := { row := gridPrintsUptoRow, standIns := [], harness := (true, "10c172bf5bdf7d6ed13e8f69353f3374ca2ec148934b1245033839cd6aa011e8"), looks := true }, kinds := [], alts := [], laidByText := true, laidKinds := [.data, .data, .data, .data, .sentinel, .sentinel, .pinned], laidTests := true, laidLooks := .later }
def GridPrintsUptoCardSaid : Prop := Claim7.holds Tryd.pinned (.plain (OpenSpec.upto gridPrintsSpec)) gridPrintsUptoCard

/-- THE SECOND FORM's CARD OF 'gloaminglaw04.GridBack'. -/
def gridBackUptoCard : Claim7 := { stood := { row := gridBackUptoRow, standIns := [], harness := (true, "10c172bf5bdf7d6ed13e8f69353f3374ca2ec148934b1245033839cd6aa011e8"), looks := true }, kinds := [], alts := [], laidByText := true, laidKinds := [.data, .data, .data, .data, .sentinel, .sentinel, .pinned], laidTests := true, laidLooks := .later }
def GridBackUptoCardSaid : Prop := Claim7.holds Tryd.pinned (.plain (OpenSpec.upto gridBackSpec)) gridBackUptoCard
end Rows
end Go.Proofs.YtcnebanpnnblbaaDoor

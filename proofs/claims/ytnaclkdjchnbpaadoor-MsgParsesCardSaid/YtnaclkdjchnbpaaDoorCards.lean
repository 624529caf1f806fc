/-
  DERIVED. GIVEN WITH THE SEED: THE CARDS: each row of YtnaclkdjchnbpaaDoorRows.lean that lists a variable, with what it lists TIED to the program's text (the seventh form; the later family's looks); each row that meets fmt, with fmt's text TOLD by the authors' own Lean function (tested against real Go, not proved from fmt's source: count such statements apart). THE CARD IS WHAT COUNTS. Prove the row's statement (the work); the ties are given (YtnaclkdjchnbpaaDoorTie.lean); close each card by the builder's one call (the guide's Derived/Test/ToyasCard.lean, 'card_holds'). Laid BY PROGRAM, IN A SANDBOX (cutbox-door.mjs). By AI agents, Wed Nov 11 2026. No macro, syntax, notation, axiom, sorry.
-/
import Derived.Test.YtnaclkdjchnbpaaDoorRows
import GoSem.ClaimSeven
namespace Go.Proofs.YtnaclkdjchnbpaaDoor
namespace Rows

/-- THE TIED CARD OF 'gloaminglaw20.MsgEncodes'. -/
def msgEncodesCard : Claim7 := { stood := { row := msgEncodesRow, standIns := [], harness := (true, "9b5da6f2840a215d410c8f54959855c8ec1c8453c8fb6315fb33309d85292c9f"), looks := true }, kinds := [], alts := [], laidByText := true, laidKinds := [.handle], laidTests := true, laidLooks := .later }
def MsgEncodesCardSaid : Prop := Claim7.holds Tryd.pinned (.plain (OpenSpec.ofChange msgEncodesSpec)) msgEncodesCard

/-- THE TIED CARD OF 'gloaminglaw20.MsgWrites'. -/
def msgWritesCard : Claim7 := { stood := { row := msgWritesRow, standIns := [], harness := (true, "9b5da6f2840a215d410c8f54959855c8ec1c8453c8fb6315fb33309d85292c9f"), looks := true }, kinds := [], alts := [], laidByText := true, laidKinds := [.handle], laidTests := true, laidLooks := .later }
def MsgWritesCardSaid : Prop := Claim7.holds Tryd.pinned (.plain (OpenSpec.ofChange msgWritesSpec)) msgWritesCard

/-- THE TIED CARD OF 'gloaminglaw20.MsgTells'. -/
def msgTellsCard : Claim7 := { stood := { row := msgTellsRow, standIns := [], harness := (true, "9b5da6f2840a215d410c8f54959855c8ec1c8453c8fb6315fb33309d85292c9f"), looks := true }, kinds := [], alts := [], laidByText := true, laidKinds := [.handle], laidTests := true, laidLooks := .later }
def MsgTellsCardSaid : Prop := Claim7.holds Tryd.pinned (.plain (OpenSpec.ofChange msgTellsSpec)) msgTellsCard

/-- THE TIED CARD OF 'gloaminglaw20.MsgBack'. -/
def msgBackCard : Claim7 := { stood := { row := msgBackRow, standIns := [], harness := (true, "9b5da6f2840a215d410c8f54959855c8ec1c8453c8fb6315fb33309d85292c9f"), looks := true }, kinds := [], alts := [], laidByText := true, laidKinds := [.handle], laidTests := true, laidLooks := .later }
def MsgBackCardSaid : Prop := Claim7.holds Tryd.pinned (.plain (OpenSpec.ofChange msgBackSpec)) msgBackCard

/-- THE TIED CARD OF 'gloaminglaw20.MsgCuts'. -/
def msgCutsCard : Claim7 := { stood := { row := msgCutsRow, standIns := [], harness := (true, "9b5da6f2840a215d410c8f54959855c8ec1c8453c8fb6315fb33309d85292c9f"), looks := true }, kinds := [], alts := [], laidByText := true, laidKinds := [.handle], laidTests := true, laidLooks := .later }
def MsgCutsCardSaid : Prop := Claim7.holds Tryd.pinned (.plain (OpenSpec.ofChange msgCutsSpec)) msgCutsCard

/-- THE TIED CARD OF 'gloaminglaw20.MsgDecodes'. -/
def msgDecodesCard : Claim7 := { stood := { row := msgDecodesRow, standIns := [], harness := (true, "9b5da6f2840a215d410c8f54959855c8ec1c8453c8fb6315fb33309d85292c9f"), looks := true }, kinds := [], alts := [], laidByText := true, laidKinds := [.handle], laidTests := true, laidLooks := .later }
def MsgDecodesCardSaid : Prop := Claim7.holds Tryd.pinned (.plain (OpenSpec.ofChange msgDecodesSpec)) msgDecodesCard

/-- THE TIED CARD OF 'gloaminglaw20.MsgParses'. -/
def msgParsesCard : Claim7 := { stood := { row := msgParsesRow, standIns := [], harness := (true, "9b5da6f2840a215d410c8f54959855c8ec1c8453c8fb6315fb33309d85292c9f"), looks := true }, kinds := [], alts := [], laidByText := true, laidKinds := [.handle], laidTests := true, laidLooks := .later }
def MsgParsesCardSaid : Prop := Claim7.holds Tryd.pinned (.plain (OpenSpec.ofChange msgParsesSpec)) msgParsesCard

/-- THE SECOND FORM's CARD OF 'gloaminglaw20.MsgEncodes'. -/
def msgEncodesUptoCard : Claim7 := { stood := { row := msgEncodesUptoRow, standIns := [], harness := (true, "9b5da6f2840a215d410c8f54959855c8ec1c8453c8fb6315fb33309d85292c9f"), looks := true }, kinds := [], alts := [], laidByText := true, laidKinds := [.handle], laidTests := true, laidLooks := .later }
def MsgEncodesUptoCardSaid : Prop := Claim7.holds Tryd.pinned (.plain (OpenSpec.upto msgEncodesSpec)) msgEncodesUptoCard

/-- THE SECOND FORM's CARD OF 'gloaminglaw20.MsgWrites'. -/
def msgWritesUptoCard : Claim7 := { stood := { row := msgWritesUptoRow, standIns := [], harness := (true, "9b5da6f2840a215d410c8f54959855c8ec1c8453c8fb6315fb33309d85292c9f"), looks := true }, kinds := [], alts := [], laidByText := true, laidKinds := [.handle], laidTests := true, laidLooks := .later }
def MsgWritesUptoCardSaid : Prop := Claim7.holds Tryd.pinned (.plain (OpenSpec.upto msgWritesSpec)) msgWritesUptoCard

/-- THE SECOND FORM's CARD OF 'gloaminglaw20.MsgTells'. -/
def msgTellsUptoCard : Claim7 := { stood := { row := msgTellsUptoRow, standIns := [], harness := (true, "9b5da6f2840a215d410c8f54959855c8ec1c8453c8fb6315fb33309d85292c9f"), looks := true }, kinds := [], alts := [], laidByText := true, laidKinds := [.handle], laidTests := true, laidLooks := .later }
def MsgTellsUptoCardSaid : Prop := Claim7.holds Tryd.pinned (.plain (OpenSpec.upto msgTellsSpec)) msgTellsUptoCard

/-- THE SECOND FORM's CARD OF 'gloaminglaw20.MsgBack'. -/
def msgBackUptoCard : Claim7 := { stood := { row := msgBackUptoRow, standIns := [], harness := (true, "9b5da6f2840a215d410c8f54959855c8ec1c8453c8fb6315fb33309d85292c9f"), looks := true }, kinds := [], alts := [], laidByText := true, laidKinds := [.handle], laidTests := true, laidLooks := .later }
def MsgBackUptoCardSaid : Prop := Claim7.holds Tryd.pinned (.plain (OpenSpec.upto msgBackSpec)) msgBackUptoCard

/-- THE SECOND FORM's CARD OF 'gloaminglaw20.MsgCuts'. -/
def msgCutsUptoCard : Claim7 := { stood := { row := msgCutsUptoRow, standIns := [], harness := (true, "9b5da6f2840a215d410c8f54959855c8ec1c8453c8fb6315fb33309d85292c9f"), looks := true }, kinds := [], alts := [], laidByText := true, laidKinds := [.handle], laidTests := true, laidLooks := .later }
def MsgCutsUptoCardSaid : Prop := Claim7.holds Tryd.pinned (.plain (OpenSpec.upto msgCutsSpec)) msgCutsUptoCard

/-- THE SECOND FORM's CARD OF 'gloaminglaw20.MsgDecodes'. -/
def msgDecodesUptoCard : Claim7 := { stood := { row := msgDecodesUptoRow, standIns := [], harness := (true, "9b5da6f2840a215d410c8f54959855c8ec1c8453c8fb6315fb33309d85292c9f"), looks := true }, kinds := [], alts := [], laidByText := true, laidKinds := [.handle], laidTests := true, laidLooks := .later }
def MsgDecodesUptoCardSaid : Prop := Claim7.holds Tryd.pinned (.plain (OpenSpec.upto msgDecodesSpec)) msgDecodesUptoCard

/-- THE SECOND FORM's CARD OF 'gloaminglaw20.MsgParses'. -/
def msgParsesUptoCard : Claim7 := { stood := { row := msgParsesUptoRow, standIns := [], harness := (true, "9b5da6f2840a215d410c8f54959855c8ec1c8453c8fb6315fb33309d85292c9f"), looks := true }, kinds := [], alts := [], laidByText := true, laidKinds := [.handle], laidTests := true, laidLooks := .later }
def MsgParsesUptoCardSaid : Prop := Claim7.holds Tryd.pinned (.plain (OpenSpec.upto msgParsesSpec)) msgParsesUptoCard
end Rows
end Go.Proofs.YtnaclkdjchnbpaaDoor

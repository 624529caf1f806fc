/-
  DERIVED. GIVEN WITH THE SEED: THE CARDS: each row of YtpnbcegefhdmdaaDoorRows.lean that lists a variable, with what it lists TIED to the program's text (the seventh form; the later family's looks); each row that meets fmt, with fmt's text TOLD by the authors' own Lean function (tested against real Go, not proved from fmt's source: count such statements apart). THE CARD IS WHAT COUNTS. Prove the row's statement (the work); the ties are given (YtpnbcegefhdmdaaDoorTie.lean); close each card by the builder's one call (the guide's Derived/Test/ToyasCard.lean, 'card_holds'). Laid BY PROGRAM, IN A SANDBOX (cutbox-door.mjs). By AI agents, Wed Nov 11 2026. No macro, syntax, notation, axiom, sorry.
-/
import Derived.Test.YtpnbcegefhdmdaaDoorRows
import GoSem.ClaimSeven
namespace Go.Proofs.YtpnbcegefhdmdaaDoor
namespace Rows

/-- THE TIED CARD OF 'gloaminglaw18.FailLong'. -/
def failLongCard : Claim7 := { stood := { row := failLongRow, standIns := [], harness := (true, "ed858f0a61a2b990faf843b0fa7c700c4c29907536363e02bc2a7a83efa71f84"), looks := true }, kinds := [], alts := [], laidByText := true, laidKinds := [.handle], laidTests := true, laidLooks := .later }
def FailLongCardSaid : Prop := Claim7.holds Tryd.pinned (.plain (OpenSpec.ofChange failLongSpec)) failLongCard

/-- THE TIED CARD OF 'gloaminglaw18.FailWraps'. -/
def failWrapsCard : Claim7 := { stood := { row := failWrapsRow, standIns := [], harness := (true, "ed858f0a61a2b990faf843b0fa7c700c4c29907536363e02bc2a7a83efa71f84"), looks := true }, kinds := [], alts := [], laidByText := true, laidKinds := [.handle], laidTests := true, laidLooks := .later }
def FailWrapsCardSaid : Prop := Claim7.holds Tryd.pinned (.plain (OpenSpec.ofChange failWrapsSpec)) failWrapsCard

/-- THE TIED CARD OF 'gloaminglaw18.FailUnwraps'. -/
def failUnwrapsCard : Claim7 := { stood := { row := failUnwrapsRow, standIns := [], harness := (true, "ed858f0a61a2b990faf843b0fa7c700c4c29907536363e02bc2a7a83efa71f84"), looks := true }, kinds := [], alts := [], laidByText := true, laidKinds := [.handle], laidTests := true, laidLooks := .later }
def FailUnwrapsCardSaid : Prop := Claim7.holds Tryd.pinned (.plain (OpenSpec.ofChange failUnwrapsSpec)) failUnwrapsCard

/-- THE TIED CARD OF 'gloaminglaw18.FailRaises'. -/
def failRaisesCard : Claim7 := { stood := { row := failRaisesRow, standIns := [], harness := (true, "ed858f0a61a2b990faf843b0fa7c700c4c29907536363e02bc2a7a83efa71f84"), looks := true }, kinds := [], alts := [], laidByText := true, laidKinds := [.handle], laidTests := true, laidLooks := .later }
def FailRaisesCardSaid : Prop := Claim7.holds Tryd.pinned (.plain (OpenSpec.ofChange failRaisesSpec)) failRaisesCard

/-- THE TIED CARD OF 'gloaminglaw18.FailTexts'. -/
def failTextsCard : Claim7 := { stood := { row := failTextsRow, standIns := [], harness := (true, "ed858f0a61a2b990faf843b0fa7c700c4c29907536363e02bc2a7a83efa71f84"), looks := true }, kinds := [], alts := [], laidByText := true, laidKinds := [.handle], laidTests := true, laidLooks := .later }
def FailTextsCardSaid : Prop := Claim7.holds Tryd.pinned (.plain (OpenSpec.ofChange failTextsSpec)) failTextsCard

/-- THE TIED CARD OF 'gloaminglaw18.FailIs'. -/
def failIsCard : Claim7 := { stood := { row := failIsRow, standIns := [], harness := (true, "ed858f0a61a2b990faf843b0fa7c700c4c29907536363e02bc2a7a83efa71f84"), looks := true }, kinds := [], alts := [], laidByText := true, laidKinds := [.handle], laidTests := true, laidLooks := .later }
def FailIsCardSaid : Prop := Claim7.holds Tryd.pinned (.plain (OpenSpec.ofChange failIsSpec)) failIsCard

/-- THE TIED CARD OF 'gloaminglaw18.FailAs'. -/
def failAsCard : Claim7 := { stood := { row := failAsRow, standIns := [], harness := (true, "ed858f0a61a2b990faf843b0fa7c700c4c29907536363e02bc2a7a83efa71f84"), looks := true }, kinds := [], alts := [], laidByText := true, laidKinds := [.handle], laidTests := true, laidLooks := .later }
def FailAsCardSaid : Prop := Claim7.holds Tryd.pinned (.plain (OpenSpec.ofChange failAsSpec)) failAsCard

/-- THE SECOND FORM's CARD OF 'gloaminglaw18.FailLong'. -/
def failLongUptoCard : Claim7 := { stood := { row := failLongUptoRow, standIns := [], harness := (true, "ed858f0a61a2b990faf843b0fa7c700c4c29907536363e02bc2a7a83efa71f84"), looks := true }, kinds := [], alts := [], laidByText := true, laidKinds := [.handle], laidTests := true, laidLooks := .later }
def FailLongUptoCardSaid : Prop := Claim7.holds Tryd.pinned (.plain (OpenSpec.upto failLongSpec)) failLongUptoCard

/-- THE SECOND FORM's CARD OF 'gloaminglaw18.FailWraps'. -/
def failWrapsUptoCard : Claim7 := { stood := { row := failWrapsUptoRow, standIns := [], harness := (true, "ed858f0a61a2b990faf843b0fa7c700c4c29907536363e02bc2a7a83efa71f84"), looks := true }, kinds := [], alts := [], laidByText := true, laidKinds := [.handle], laidTests := true, laidLooks := .later }
def FailWrapsUptoCardSaid : Prop := Claim7.holds Tryd.pinned (.plain (OpenSpec.upto failWrapsSpec)) failWrapsUptoCard

/-- THE SECOND FORM's CARD OF 'gloaminglaw18.FailUnwraps'. -/
def failUnwrapsUptoCard : Claim7 := { stood := { row := failUnwrapsUptoRow, standIns := [], harness := (true, "ed858f0a61a2b990faf843b0fa7c700c4c29907536363e02bc2a7a83efa71f84"), looks := true }, kinds := [], alts := [], laidByText := true, laidKinds := [.handle], laidTests := true, laidLooks := .later }
def FailUnwrapsUptoCardSaid : Prop := Claim7.holds Tryd.pinned (.plain (OpenSpec.upto failUnwrapsSpec)) failUnwrapsUptoCard

/-- THE SECOND FORM's CARD OF 'gloaminglaw18.FailRaises'. -/
def failRaisesUptoCard : Claim7 := { stood := { row := failRaisesUptoRow, standIns := [], harness := (true, "ed858f0a61a2b990faf843b0fa7c700c4c29907536363e02bc2a7a83efa71f84"), looks := true }, kinds := [], alts := [], laidByText := true, laidKinds := [.handle], laidTests := true, laidLooks := .later }
def FailRaisesUptoCardSaid : Prop := Claim7.holds Tryd.pinned (.plain (OpenSpec.upto failRaisesSpec)) failRaisesUptoCard

/-- THE SECOND FORM's CARD OF 'gloaminglaw18.FailTexts'. -/
def failTextsUptoCard : Claim7 := { stood := { row := failTextsUptoRow, standIns := [], harness := (true, "ed858f0a61a2b990faf843b0fa7c700c4c29907536363e02bc2a7a83efa71f84"), looks := true }, kinds := [], alts := [], laidByText := true, laidKinds := [.handle], laidTests := true, laidLooks := .later }
def FailTextsUptoCardSaid : Prop := Claim7.holds Tryd.pinned (.plain (OpenSpec.upto failTextsSpec)) failTextsUptoCard

/-- THE SECOND FORM's CARD OF 'gloaminglaw18.FailIs'. -/
def failIsUptoCard : Claim7 := { stood := { row := failIsUptoRow, standIns := [], harness := (true, "ed858f0a61a2b990faf843b0fa7c700c4c29907536363e02bc2a7a83efa71f84"), looks := true }, kinds := [], alts := [], laidByText := true, laidKinds := [.handle], laidTests := true, laidLooks := .later }
def FailIsUptoCardSaid : Prop := Claim7.holds Tryd.pinned (.plain (OpenSpec.upto failIsSpec)) failIsUptoCard

/-- THE SECOND FORM's CARD OF 'gloaminglaw18.FailAs'. -/
def failAsUptoCard : Claim7 := { stood := { row := failAsUptoRow, standIns := [], harness := (true, "ed858f0a61a2b990faf843b0fa7c700c4c29907536363e02bc2a7a83efa71f84"), looks := true }, kinds := [], alts := [], laidByText := true, laidKinds := [.handle], laidTests := true, laidLooks := .later }
def FailAsUptoCardSaid : Prop := Claim7.holds Tryd.pinned (.plain (OpenSpec.upto failAsSpec)) failAsUptoCard
end Rows
end Go.Proofs.YtpnbcegefhdmdaaDoor

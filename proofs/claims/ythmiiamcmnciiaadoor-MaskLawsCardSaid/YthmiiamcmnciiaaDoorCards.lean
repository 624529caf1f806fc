/-
  DERIVED. GIVEN WITH THE SEED: THE CARDS: each row of YthmiiamcmnciiaaDoorRows.lean that lists a variable, with what it lists TIED to the program's text (the seventh form; the later family's looks); each row that meets fmt, with fmt's text TOLD by the authors' own Lean function (tested against real Go, not proved from fmt's source: count such statements apart). THE CARD IS WHAT COUNTS. Prove the row's statement (the work); the ties are given (YthmiiamcmnciiaaDoorTie.lean); close each card by the builder's one call (the guide's Derived/Test/ToyasCard.lean, 'card_holds'). Laid BY PROGRAM, IN A SANDBOX (cutbox-door.mjs). By AI agents, Wed Nov 11 2026. No macro, syntax, notation, axiom, sorry.
-/
import Derived.Test.YthmiiamcmnciiaaDoorRows
import GoSem.ClaimSeven
namespace Go.Proofs.YthmiiamcmnciiaaDoor
namespace Rows

/-- THE TIED CARD OF 'gloaminglaw02.MaskActs'. -/
def maskActsCard : Claim7 := { stood := { row := maskActsRow, standIns := [], harness := (true, "b0810f15a27d109111e19866f7d966d8ed96bdba603b4ebbfd88ebf4e0a117c6"), looks := false }, kinds := [], alts := [], laidByText := true, laidKinds := [.data], laidTests := true, laidLooks := .later }
def MaskActsCardSaid : Prop := Claim7.holds Tryd.pinned (.plain (OpenSpec.ofChange maskActsSpec)) maskActsCard

/-- THE TIED CARD OF 'gloaminglaw02.MaskOf'. -/
def maskOfCard : Claim7 := { stood := { row := maskOfRow, standIns := [], harness := (true, "b0810f15a27d109111e19866f7d966d8ed96bdba603b4ebbfd88ebf4e0a117c6"), looks := false }, kinds := [], alts := [], laidByText := true, laidKinds := [.data], laidTests := true, laidLooks := .later }
def MaskOfCardSaid : Prop := Claim7.holds Tryd.pinned (.plain (OpenSpec.ofChange maskOfSpec)) maskOfCard

/-- THE TIED CARD OF 'gloaminglaw02.MaskLaws'. -/
def maskLawsCard : Claim7 := { stood := { row := maskLawsRow, standIns := [], harness := (true, "b0810f15a27d109111e19866f7d966d8ed96bdba603b4ebbfd88ebf4e0a117c6"), looks := false }, kinds := [], alts := [], laidByText := true, laidKinds := [.data], laidTests := true, laidLooks := .later }
def MaskLawsCardSaid : Prop := Claim7.holds Tryd.pinned (.plain (OpenSpec.ofChange maskLawsSpec)) maskLawsCard

/-- THE TIED CARD OF 'gloaminglaw02.MaskJoins'. -/
def maskJoinsCard : Claim7 := { stood := { row := maskJoinsRow, standIns := [], harness := (true, "b0810f15a27d109111e19866f7d966d8ed96bdba603b4ebbfd88ebf4e0a117c6"), looks := false }, kinds := [], alts := [], laidByText := true, laidKinds := [.data], laidTests := true, laidLooks := .later }
def MaskJoinsCardSaid : Prop := Claim7.holds Tryd.pinned (.plain (OpenSpec.ofChange maskJoinsSpec)) maskJoinsCard

/-- THE TIED CARD OF 'gloaminglaw02.MaskNil'. -/
def maskNilCard : Claim7 := { stood := { row := maskNilRow, standIns := [], harness := (true, "b0810f15a27d109111e19866f7d966d8ed96bdba603b4ebbfd88ebf4e0a117c6"), looks := false }, kinds := [], alts := [], laidByText := true, laidKinds := [.data], laidTests := true, laidLooks := .later }
def MaskNilCardSaid : Prop := Claim7.holds Tryd.pinned (.plain (OpenSpec.ofChange maskNilSpec)) maskNilCard

/-- THE TIED CARD OF 'gloaminglaw02.MaskTells'. -/
def maskTellsCard : Claim7 := { stood := { row := maskTellsRow, standIns := [], harness := (true, "b0810f15a27d109111e19866f7d966d8ed96bdba603b4ebbfd88ebf4e0a117c6"), looks := false }, kinds := [], alts := [], laidByText := true, laidKinds := [.data], laidTests := true, laidLooks := .later }
def MaskTellsCardSaid : Prop := Claim7.holds Tryd.pinned (.plain (OpenSpec.ofChange maskTellsSpec)) maskTellsCard

/-- THE SECOND FORM's CARD OF 'gloaminglaw02.MaskActs'. -/
def maskActsUptoCard : Claim7 := { stood := { row := maskActsUptoRow, standIns := [], harness := (true, "b0810f15a27d109111e19866f7d966d8ed96bdba603b4ebbfd88ebf4e0a117c6"), looks := false }, kinds := [], alts := [], laidByText := true, laidKinds := [.data], laidTests := true, laidLooks := .later }
def MaskActsUptoCardSaid : Prop := Claim7.holds Tryd.pinned (.plain (OpenSpec.upto maskActsSpec)) maskActsUptoCard

/-- THE SECOND FORM's CARD OF 'gloaminglaw02.MaskOf'. -/
def maskOfUptoCard : Claim7 := { stood := { row := maskOfUptoRow, standIns := [], harness := (true, "b0810f15a27d109111e19866f7d966d8ed96bdba603b4ebbfd88ebf4e0a117c6"), looks := false }, kinds := [], alts := [], laidByText := true, laidKinds := [.data], laidTests := true, laidLooks := .later }
def MaskOfUptoCardSaid : Prop := Claim7.holds Tryd.pinned (.plain (OpenSpec.upto maskOfSpec)) maskOfUptoCard

/-- THE SECOND FORM's CARD OF 'gloaminglaw02.MaskLaws'. -/
def maskLawsUptoCard : Claim7 := { stood := { row := maskLawsUptoRow, standIns := [], harness := (true, "b0810f15a27d109111e19866f7d966d8ed96bdba603b4ebbfd88ebf4e0a117c6"), looks := false }, kinds := [], alts := [], laidByText := true, laidKinds := [.data], laidTests := true, laidLooks := .later }
def MaskLawsUptoCardSaid : Prop := Claim7.holds Tryd.pinned (.plain (OpenSpec.upto maskLawsSpec)) maskLawsUptoCard

/-- THE SECOND FORM's CARD OF 'gloaminglaw02.MaskJoins'. -/
def maskJoinsUptoCard : Claim7 := { stood := { row := maskJoinsUptoRow, standIns := [], harness := (true, "b0810f15a27d109111e19866f7d966d8ed96bdba603b4ebbfd88ebf4e0a117c6"), looks := false }, kinds := [], alts := [], laidByText := true, laidKinds := [.data], laidTests := true, laidLooks := .later }
def MaskJoinsUptoCardSaid : Prop := Claim7.holds Tryd.pinned (.plain (OpenSpec.upto maskJoinsSpec)) maskJoinsUptoCard

/-- THE SECOND FORM's CARD OF 'gloaminglaw02.MaskNil'. -/
def maskNilUptoCard : Claim7 := { stood := { row := maskNilUptoRow, standIns := [], harness := (true, "b0810f15a27d109111e19866f7d966d8ed96bdba603b4ebbfd88ebf4e0a117c6"), looks := false }, kinds := [], alts := [], laidByText := true, laidKinds := [.data], laidTests := true, laidLooks := .later }
def MaskNilUptoCardSaid : Prop := Claim7.holds Tryd.pinned (.plain (OpenSpec.upto maskNilSpec)) maskNilUptoCard

/-- THE SECOND FORM's CARD OF 'gloaminglaw02.MaskTells'. -/
def maskTellsUptoCard : Claim7 := { stood := { row := maskTellsUptoRow, standIns := [], harness := (true, "b0810f15a27d109111e19866f7d966d8ed96bdba603b4ebbfd88ebf4e0a117c6"), looks := false }, kinds := [], alts := [], laidByText := true, laidKinds := [.data], laidTests := true, laidLooks := .later }
def MaskTellsUptoCardSaid : Prop := Claim7.holds Tryd.pinned (.plain (OpenSpec.upto maskTellsSpec)) maskTellsUptoCard
end Rows
end Go.Proofs.YthmiiamcmnciiaaDoor

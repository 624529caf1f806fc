/-
  DERIVED. GIVEN WITH THE SEED: THE CARDS: each row of YteehbjdohionlaaDoorRows.lean that lists a variable, with what it lists TIED to the program's text (the seventh form; the later family's looks); each row that meets fmt, with fmt's text TOLD by the authors' own Lean function (tested against real Go, not proved from fmt's source: count such statements apart). THE CARD IS WHAT COUNTS. Prove the row's statement (the work); the ties are given (YteehbjdohionlaaDoorTie.lean); close each card by the builder's one call (the guide's Derived/Test/ToyasCard.lean, 'card_holds'). Laid BY PROGRAM, IN A SANDBOX (cutbox-door.mjs). By AI agents, Wed Nov 11 2026. No macro, syntax, notation, axiom, sorry.
-/
import Derived.Test.YteehbjdohionlaaDoorRows
import GoSem.ClaimSeven
namespace Go.Proofs.YteehbjdohionlaaDoor
namespace Rows

/-- THE TIED CARD OF 'gloaminglaw06.FogLast'. -/
def fogLastCard : Claim7 := { stood := { row := fogLastRow, standIns := [], harness := (true, "5475db916a7455dec0109bf4872cf77729e48429d183adfe946001835820049e"), looks := false }, kinds := [], alts := [], laidByText := true, laidKinds := [.data], laidTests := true, laidLooks := .later }
def FogLastCardSaid : Prop := Claim7.holds Tryd.pinned (.plain (OpenSpec.ofChange fogLastSpec)) fogLastCard

/-- THE TIED CARD OF 'gloaminglaw06.FogOrder'. -/
def fogOrderCard : Claim7 := { stood := { row := fogOrderRow, standIns := [], harness := (true, "5475db916a7455dec0109bf4872cf77729e48429d183adfe946001835820049e"), looks := false }, kinds := [], alts := [], laidByText := true, laidKinds := [.data], laidTests := true, laidLooks := .later }
def FogOrderCardSaid : Prop := Claim7.holds Tryd.pinned (.plain (OpenSpec.ofChange fogOrderSpec)) fogOrderCard

/-- THE TIED CARD OF 'gloaminglaw06.FogHangs'. -/
def fogHangsCard : Claim7 := { stood := { row := fogHangsRow, standIns := [], harness := (true, "5475db916a7455dec0109bf4872cf77729e48429d183adfe946001835820049e"), looks := false }, kinds := [], alts := [], laidByText := true, laidKinds := [.data], laidTests := true, laidLooks := .later }
def FogHangsCardSaid : Prop := Claim7.holds Tryd.pinned (.plain (OpenSpec.ofChange fogHangsSpec)) fogHangsCard

/-- THE TIED CARD OF 'gloaminglaw06.FogClone'. -/
def fogCloneCard : Claim7 := { stood := { row := fogCloneRow, standIns := [], harness := (true, "5475db916a7455dec0109bf4872cf77729e48429d183adfe946001835820049e"), looks := false }, kinds := [], alts := [], laidByText := true, laidKinds := [.data], laidTests := true, laidLooks := .later }
def FogCloneCardSaid : Prop := Claim7.holds Tryd.pinned (.plain (OpenSpec.ofChange fogCloneSpec)) fogCloneCard

/-- THE TIED CARD OF 'gloaminglaw06.FogMerges'. -/
def fogMergesCard : Claim7 := { stood := { row := fogMergesRow, standIns := [], harness := (true, "5475db916a7455dec0109bf4872cf77729e48429d183adfe946001835820049e"), looks := false }, kinds := [], alts := [], laidByText := true, laidKinds := [.data], laidTests := true, laidLooks := .later }
def FogMergesCardSaid : Prop := Claim7.holds Tryd.pinned (.plain (OpenSpec.ofChange fogMergesSpec)) fogMergesCard

/-- THE TIED CARD OF 'gloaminglaw06.FogWhole'. -/
def fogWholeCard : Claim7 := { stood := { row := fogWholeRow, standIns := [], harness := (true, "5475db916a7455dec0109bf4872cf77729e48429d183adfe946001835820049e"), looks := false }, kinds := [], alts := [], laidByText := true, laidKinds := [.data], laidTests := true, laidLooks := .later }
def FogWholeCardSaid : Prop := Claim7.holds Tryd.pinned (.plain (OpenSpec.ofChange fogWholeSpec)) fogWholeCard

/-- THE SECOND FORM's CARD OF 'gloaminglaw06.FogLast'. -/
def fogLastUptoCard : Claim7 := { stood := { row := fogLastUptoRow, standIns := [], harness := (true, "5475db916a7455dec0109bf4872cf77729e48429d183adfe946001835820049e"), looks := false }, kinds := [], alts := [], laidByText := true, laidKinds := [.data], laidTests := true, laidLooks := .later }
def FogLastUptoCardSaid : Prop := Claim7.holds Tryd.pinned (.plain (OpenSpec.upto fogLastSpec)) fogLastUptoCard

/-- THE SECOND FORM's CARD OF 'gloaminglaw06.FogOrder'. -/
def fogOrderUptoCard : Claim7 := { stood := { row := fogOrderUptoRow, standIns := [], harness := (true, "5475db916a7455dec0109bf4872cf77729e48429d183adfe946001835820049e"), looks := false }, kinds := [], alts := [], laidByText := true, laidKinds := [.data], laidTests := true, laidLooks := .later }
def FogOrderUptoCardSaid : Prop := Claim7.holds Tryd.pinned (.plain (OpenSpec.upto fogOrderSpec)) fogOrderUptoCard

/-- THE SECOND FORM's CARD OF 'gloaminglaw06.FogHangs'. -/
def fogHangsUptoCard : Claim7 := { stood := { row := fogHangsUptoRow, standIns := [], harness := (true, "5475db916a7455dec0109bf4872cf77729e48429d183adfe946001835820049e"), looks := false }, kinds := [], alts := [], laidByText := true, laidKinds := [.data], laidTests := true, laidLooks := .later }
def FogHangsUptoCardSaid : Prop := Claim7.holds Tryd.pinned (.plain (OpenSpec.upto fogHangsSpec)) fogHangsUptoCard

/-- THE SECOND FORM's CARD OF 'gloaminglaw06.FogClone'. -/
def fogCloneUptoCard : Claim7 := { stood := { row := fogCloneUptoRow, standIns := [], harness := (true, "5475db916a7455dec0109bf4872cf77729e48429d183adfe946001835820049e"), looks := false }, kinds := [], alts := [], laidByText := true, laidKinds := [.data], laidTests := true, laidLooks := .later }
def FogCloneUptoCardSaid : Prop := Claim7.holds Tryd.pinned (.plain (OpenSpec.upto fogCloneSpec)) fogCloneUptoCard

/-- THE SECOND FORM's CARD OF 'gloaminglaw06.FogMerges'. -/
def fogMergesUptoCard : Claim7 := { stood := { row := fogMergesUptoRow, standIns := [], harness := (true, "5475db916a7455dec0109bf4872cf77729e48429d183adfe946001835820049e"), looks := false }, kinds := [], alts := [], laidByText := true, laidKinds := [.data], laidTests := true, laidLooks := .later }
def FogMergesUptoCardSaid : Prop := Claim7.holds Tryd.pinned (.plain (OpenSpec.upto fogMergesSpec)) fogMergesUptoCard

/-- THE SECOND FORM's CARD OF 'gloaminglaw06.FogWhole'. -/
def fogWholeUptoCard : Claim7 := { stood := { row := fogWholeUptoRow, standIns := [], harness := (true, "5475db916a7455dec0109bf4872cf77729e48429d183adfe946001835820049e"), looks := false }, kinds := [], alts := [], laidByText := true, laidKinds := [.data], laidTests := true, laidLooks := .later }
def FogWholeUptoCardSaid : Prop := Claim7.holds Tryd.pinned (.plain (OpenSpec.upto fogWholeSpec)) fogWholeUptoCard
end Rows
end Go.Proofs.YteehbjdohionlaaDoor

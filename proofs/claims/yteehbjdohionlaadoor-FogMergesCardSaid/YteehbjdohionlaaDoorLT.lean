/- What the table of math/bits holds when a law's call begins. -/
import Derived.Test.YteehbjdohionlaaDoorM7
import Derived.Test.YteehbjdohionlaaDoorTie
import Derived.Test.YteehbjdohionlaaDoorCards
import Derived.SevenTiedAt
namespace Go.Proofs.YteehbjdohionlaaDoor
open Go Go.K Go.ChangeShapes Go.WideShapes Go.ChangeAt Go.RowKit

def laidL : List (String × DataW Unit) := [("math/bits.deBruijn64tab", Rows.laid_math_bits_deBruijn64tab)]
theorem door_met (os : Os) (args : Array Value) : laidMetH Tryd.prog laidL ((World.doorLaid Tryd.prog 400 os).forCall (fun _ _ => 0) ⟨#[], args, []⟩).memory :=
  laidMetH_of_parts3 (fuel := 8) (laidMet_of_run' 8 (by kernel_rfl) (by kernel_rfl)) (by kernel_rfl) (by kernel_rfl)
theorem tb_of (W : World) (h : laidMetH Tryd.prog laidL W) : TB (fun b => W.heap[b]?) :=
  tab8_of (P := Tryd.prog) (name := "math/bits.deBruijn64tab") (g := 0) (t := 105) (e := 5) (n := 64) (by kernel_rfl) (by kernel_rfl) Tryd.underlying105 Tryd.underlying5 (by kernel_rfl) (by decide) rfl (by kernel_rfl) h
end Go.Proofs.YteehbjdohionlaaDoor

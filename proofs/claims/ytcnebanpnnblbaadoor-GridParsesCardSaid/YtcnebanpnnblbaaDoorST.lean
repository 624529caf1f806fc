/- What the listed variables hold when a law's call begins. -/
import Derived.Test.YtcnebanpnnblbaaDoorK20
import Derived.Test.YtcnebanpnnblbaaDoorTie
import Derived.Test.YtcnebanpnnblbaaDoorCards
import Derived.SevenTiedAt
import Derived.LaidHandle
namespace Go.Proofs.YtcnebanpnnblbaaDoor
open Go Go.K Go.ChangeShapes Go.WideShapes Go.ChangeAt Go.RowKit

def laidL : List (String × DataW Unit) := [("math/bits.deBruijn32tab", Rows.laid_math_bits_deBruijn32tab), ("math/bits.deBruijn64tab", Rows.laid_math_bits_deBruijn64tab), ("internal/strconv.uint64pow10", Rows.laid_internal_strconv_uint64pow10), ("unicode/utf8.acceptRanges", Rows.laid_unicode_utf8_acceptRanges), ("strconv.ErrRange", Rows.laid_strconv_ErrRange), ("strconv.ErrSyntax", Rows.laid_strconv_ErrSyntax), ("unicode/utf8.first", Rows.laid_unicode_utf8_first)]
/-- A world in which all of them lie: what the program's text lays, and the pinned table. -/
noncomputable def doorW (os : Os) : World :=
  let w := World.doorLaid Tryd.prog 400 os
  { w with heap := w.heap.modify 4 fun o => match o with
    | .cells _ e fz => .cells (((Pinned.utf8FirstZ : List Nat).map fun (n : Nat) => Value.int .u8 (n : Int))).toArray e fz
    | o => o }
theorem door_met (os : Os) (args : Array Value) : laidMetH Tryd.prog laidL ((doorW os).forCall (fun _ _ => 0) ⟨#[], args, []⟩).memory :=
  laidMetH_of_parts3 (fuel := 8) (laidMet_of_run' 8 (by kernel_rfl) (by kernel_rfl)) (by kernel_rfl) (by kernel_rfl)
def TB (_ : Nat → Option Obj) : Prop := True
theorem tb_of (W : World) (_ : laidMetH Tryd.prog laidL W) : TB (fun b => W.heap[b]?) := trivial
end Go.Proofs.YtcnebanpnnblbaaDoor

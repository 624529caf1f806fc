/- What the variable of package errors holds when a law's call begins. -/
import Derived.Test.YtnaclkdjchnbpaaDoorE6
import Derived.Test.YtnaclkdjchnbpaaDoorTie
import Derived.Test.YtnaclkdjchnbpaaDoorCards
import Derived.SevenTiedAt
import Derived.LaidHandle
namespace Go.Proofs.YtnaclkdjchnbpaaDoor
open Go Go.K Go.ChangeShapes Go.WideShapes Go.ChangeAt Go.RowKit

def laidL : List (String × DataW Unit) := [("errors.errorType", Rows.laid_errors_errorType)]
def TB (β : Nat → Option Obj) : Prop := TBE β
theorem door_met (os : Os) (args : Array Value) : laidMetH Tryd.prog laidL ((World.doorLaid Tryd.prog 400 os).forCall (fun _ _ => 0) ⟨#[], args, []⟩).memory :=
  laidMetH_of_parts (laidMet_nil _ _) (by kernel_rfl)
theorem oneRow : ((List.range Tryd.prog.types.size).filter fun t => Tryd.prog.rowNamed t [101, 114, 114, 111, 114]) = [29] := by kernel_rfl
theorem tb_of (W : World) (h : laidMetH Tryd.prog laidL W) : TB (fun b => W.heap[b]?) := by
  have h' : laidMet Tryd.prog [] W ∧ handlesMet Tryd.prog laidL W := h
  obtain ⟨name, u, ty, e1, e2, e3, e4, e5⟩ := h'.2 _ (List.mem_singleton.2 rfl)
  have en : name = [101, 114, 114, 111, 114] := (Option.some.inj e1).symm
  subst en
  obtain rfl := Option.some.inj ((show (Tryd.prog.cutTypes.find? (·.1 == "internal/reflectlite.rtype")).map (·.2) = some 151 by kernel_rfl).symm.trans e2)
  have hm : ty ∈ (List.range Tryd.prog.types.size).filter fun t => Tryd.prog.rowNamed t [101, 114, 114, 111, 114] := List.mem_filter.2 ⟨List.mem_range.2 e3, e4⟩
  rw [oneRow] at hm
  obtain rfl := List.mem_singleton.1 hm
  have hh : typeHandle Tryd.prog 29 = hdl 29 := by kernel_rfl
  rw [hh] at e5
  have h3 := World.var?_cell (show Tryd.prog.globalNamed "errors.errorType" = some 0 by kernel_rfl) e5 0
  exact .inr (rc_of_cell (by rw [rt]; simpa using h3))
end Go.Proofs.YtnaclkdjchnbpaaDoor

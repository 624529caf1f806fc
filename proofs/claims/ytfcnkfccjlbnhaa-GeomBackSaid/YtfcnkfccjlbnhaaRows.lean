/-
  No cell of these rows narrows 'for every input' (looked for: loops, veiled, ifaces, maps, wideKeys, modest, calm, conditions, laid).
  DERIVED. THE GIVEN ROWS OF THIS SEAT. 8 by the template 'for every input the law returns true; each argument reads behind the call as it read before'; 0 by the template 'total and deterministic' (their statements: YtfcnkfccjlbnhaaTotals.lean).
  GIVEN WITH THE SEED: the statements are not yours to turn. If you find one false, say at which input.
  Laid BY PROGRAM, IN A SANDBOX (cutbox-rows.mjs): the forced cells as the released guide's own fill.sh prints them over the translation 95121bf19abd8c91… (all of the seat's roots in one cut). By AI agents, Wed Nov 11 2026. No macro, syntax, notation, axiom, sorry.
-/
import Derived.Test.YtfcnkfccjlbnhaaChecked
import GoSem.Claim
import GoSem.ClaimJoined
import GoSem.ClaimMapViews
import Derived.JoinedTies
import Derived.KernelRfl
namespace Go.Proofs.Ytfcnkfccjlbnhaa
/- THE CELL 'sum', in the pinned program and in every row, IS THE sha256 OF THE DUMP (.gsa) THAT YtfcnkfccjlbnhaaProg.lean LOADS. Nothing in Lean hashes anything: it is a label: what it is worth is what the hold of that sum in a sandbox is worth. -/
noncomputable def Try.pinned : Pinned := { name := "ytfcnkfccjlbnhaa", sum := "95121bf19abd8c919a8e4800d29260686074420eecdb9bc72a3e3661c8ff317d", checked := Try.checked }
namespace Rows
def none {H : Type} : Left H := { results := [], args := [] }

/-- 'gloaminglaw01.GeomIndex': WHATEVER THE INPUT: true; the input reads as it did. -/
def geomIndexSpec : ChangeSpec := { name := "geomIndex", fn := fun _ => fun
  | [d1, d2, d3] => { results := [.lit (.bool true)], args := [d1, d2, d3] }
  | _ => none }
def geomIndexRow : OpenClaim := { program := "ytfcnkfccjlbnhaa", sum := "95121bf19abd8c919a8e4800d29260686074420eecdb9bc72a3e3661c8ff317d", func := "gloaming/gloaminglaw01.GeomIndex", spec := "geomIndex", apart := false }
def GeomIndexSaid : Prop := geomIndexRow.holds Try.pinned (OpenSpec.ofChange geomIndexSpec)

/-- ITS FALSE NEIGHBOUR: 'it returns false'. Refute it at one input. -/
def geomIndexWrong : ChangeSpec := { name := "geomIndex", fn := fun _ => fun
  | [d1, d2, d3] => { results := [.lit (.bool false)], args := [d1, d2, d3] }
  | _ => none }
def GeomIndexWrongFalsely : Prop := geomIndexRow.holds Try.pinned (OpenSpec.ofChange geomIndexWrong)

/-- 'gloaminglaw01.GeomFar': WHATEVER THE INPUT: true; the input reads as it did. -/
def geomFarSpec : ChangeSpec := { name := "geomFar", fn := fun _ => fun
  | [d1, d2] => { results := [.lit (.bool true)], args := [d1, d2] }
  | _ => none }
def geomFarRow : OpenClaim := { program := "ytfcnkfccjlbnhaa", sum := "95121bf19abd8c919a8e4800d29260686074420eecdb9bc72a3e3661c8ff317d", func := "gloaming/gloaminglaw01.GeomFar", spec := "geomFar", apart := false }
def GeomFarSaid : Prop := geomFarRow.holds Try.pinned (OpenSpec.ofChange geomFarSpec)

/-- ITS FALSE NEIGHBOUR: 'it returns false'. Refute it at one input. -/
def geomFarWrong : ChangeSpec := { name := "geomFar", fn := fun _ => fun
  | [d1, d2] => { results := [.lit (.bool false)], args := [d1, d2] }
  | _ => none }
def GeomFarWrongFalsely : Prop := geomFarRow.holds Try.pinned (OpenSpec.ofChange geomFarWrong)

/-- 'gloaminglaw01.GeomOnce': WHATEVER THE INPUT: true; the input reads as it did. -/
def geomOnceSpec : ChangeSpec := { name := "geomOnce", fn := fun _ => fun
  | [d1, d2, d3] => { results := [.lit (.bool true)], args := [d1, d2, d3] }
  | _ => none }
def geomOnceRow : OpenClaim := { program := "ytfcnkfccjlbnhaa", sum := "95121bf19abd8c919a8e4800d29260686074420eecdb9bc72a3e3661c8ff317d", func := "gloaming/gloaminglaw01.GeomOnce", spec := "geomOnce", apart := false }
def GeomOnceSaid : Prop := geomOnceRow.holds Try.pinned (OpenSpec.ofChange geomOnceSpec)

/-- ITS FALSE NEIGHBOUR: 'it returns false'. Refute it at one input. -/
def geomOnceWrong : ChangeSpec := { name := "geomOnce", fn := fun _ => fun
  | [d1, d2, d3] => { results := [.lit (.bool false)], args := [d1, d2, d3] }
  | _ => none }
def GeomOnceWrongFalsely : Prop := geomOnceRow.holds Try.pinned (OpenSpec.ofChange geomOnceWrong)

/-- 'gloaminglaw01.GeomWalk': WHATEVER THE INPUT: true; the input reads as it did. -/
def geomWalkSpec : ChangeSpec := { name := "geomWalk", fn := fun _ => fun
  | [d1, d2, d3] => { results := [.lit (.bool true)], args := [d1, d2, d3] }
  | _ => none }
def geomWalkRow : OpenClaim := { program := "ytfcnkfccjlbnhaa", sum := "95121bf19abd8c919a8e4800d29260686074420eecdb9bc72a3e3661c8ff317d", func := "gloaming/gloaminglaw01.GeomWalk", spec := "geomWalk", apart := false }
def GeomWalkSaid : Prop := geomWalkRow.holds Try.pinned (OpenSpec.ofChange geomWalkSpec)

/-- ITS FALSE NEIGHBOUR: 'it returns false'. Refute it at one input. -/
def geomWalkWrong : ChangeSpec := { name := "geomWalk", fn := fun _ => fun
  | [d1, d2, d3] => { results := [.lit (.bool false)], args := [d1, d2, d3] }
  | _ => none }
def GeomWalkWrongFalsely : Prop := geomWalkRow.holds Try.pinned (OpenSpec.ofChange geomWalkWrong)

/-- 'gloaminglaw01.GeomBack': WHATEVER THE INPUT: true; the input reads as it did. -/
def geomBackSpec : ChangeSpec := { name := "geomBack", fn := fun _ => fun
  | [d1, d2, d3] => { results := [.lit (.bool true)], args := [d1, d2, d3] }
  | _ => none }
def geomBackRow : OpenClaim := { program := "ytfcnkfccjlbnhaa", sum := "95121bf19abd8c919a8e4800d29260686074420eecdb9bc72a3e3661c8ff317d", func := "gloaming/gloaminglaw01.GeomBack", spec := "geomBack", unfollowed := true, recurses := true, apart := false }
def GeomBackSaid : Prop := geomBackRow.holds Try.pinned (OpenSpec.ofChange geomBackSpec)

/-- ITS FALSE NEIGHBOUR: 'it returns false'. Refute it at one input. -/
def geomBackWrong : ChangeSpec := { name := "geomBack", fn := fun _ => fun
  | [d1, d2, d3] => { results := [.lit (.bool false)], args := [d1, d2, d3] }
  | _ => none }
def GeomBackWrongFalsely : Prop := geomBackRow.holds Try.pinned (OpenSpec.ofChange geomBackWrong)

/-- 'gloaminglaw01.GeomBox': WHATEVER THE INPUT: true; the input reads as it did. -/
def geomBoxSpec : ChangeSpec := { name := "geomBox", fn := fun _ => fun
  | [d1, d2, d3] => { results := [.lit (.bool true)], args := [d1, d2, d3] }
  | _ => none }
def geomBoxRow : OpenClaim := { program := "ytfcnkfccjlbnhaa", sum := "95121bf19abd8c919a8e4800d29260686074420eecdb9bc72a3e3661c8ff317d", func := "gloaming/gloaminglaw01.GeomBox", spec := "geomBox", unfollowed := true, recurses := true, apart := false }
def GeomBoxSaid : Prop := geomBoxRow.holds Try.pinned (OpenSpec.ofChange geomBoxSpec)

/-- ITS FALSE NEIGHBOUR: 'it returns false'. Refute it at one input. -/
def geomBoxWrong : ChangeSpec := { name := "geomBox", fn := fun _ => fun
  | [d1, d2, d3] => { results := [.lit (.bool false)], args := [d1, d2, d3] }
  | _ => none }
def GeomBoxWrongFalsely : Prop := geomBoxRow.holds Try.pinned (OpenSpec.ofChange geomBoxWrong)

/-- 'gloaminglaw01.GeomFits': WHATEVER THE INPUT: true; the input reads as it did. -/
def geomFitsSpec : ChangeSpec := { name := "geomFits", fn := fun _ => fun
  | [d1, d2, d3] => { results := [.lit (.bool true)], args := [d1, d2, d3] }
  | _ => none }
def geomFitsRow : OpenClaim := { program := "ytfcnkfccjlbnhaa", sum := "95121bf19abd8c919a8e4800d29260686074420eecdb9bc72a3e3661c8ff317d", func := "gloaming/gloaminglaw01.GeomFits", spec := "geomFits", unfollowed := true, recurses := true, apart := false }
def GeomFitsSaid : Prop := geomFitsRow.holds Try.pinned (OpenSpec.ofChange geomFitsSpec)

/-- ITS FALSE NEIGHBOUR: 'it returns false'. Refute it at one input. -/
def geomFitsWrong : ChangeSpec := { name := "geomFits", fn := fun _ => fun
  | [d1, d2, d3] => { results := [.lit (.bool false)], args := [d1, d2, d3] }
  | _ => none }
def GeomFitsWrongFalsely : Prop := geomFitsRow.holds Try.pinned (OpenSpec.ofChange geomFitsWrong)

/-- 'gloaminglaw01.GeomSteps': WHATEVER THE INPUT: true; the input reads as it did. -/
def geomStepsSpec : ChangeSpec := { name := "geomSteps", fn := fun _ => fun
  | [d1, d2, d3] => { results := [.lit (.bool true)], args := [d1, d2, d3] }
  | _ => none }
def geomStepsRow : OpenClaim := { program := "ytfcnkfccjlbnhaa", sum := "95121bf19abd8c919a8e4800d29260686074420eecdb9bc72a3e3661c8ff317d", func := "gloaming/gloaminglaw01.GeomSteps", spec := "geomSteps", unfollowed := true, recurses := true, apart := false }
def GeomStepsSaid : Prop := geomStepsRow.holds Try.pinned (OpenSpec.ofChange geomStepsSpec)

/-- ITS FALSE NEIGHBOUR: 'it returns false'. Refute it at one input. -/
def geomStepsWrong : ChangeSpec := { name := "geomSteps", fn := fun _ => fun
  | [d1, d2, d3] => { results := [.lit (.bool false)], args := [d1, d2, d3] }
  | _ => none }
def GeomStepsWrongFalsely : Prop := geomStepsRow.holds Try.pinned (OpenSpec.ofChange geomStepsWrong)

/- THE SECOND FORM. 'bulk': how many values and letters a reading holds, each counted each time it is reached (what is shared counts as often as it is met; a slice's spare places count too). A statement '..UptoSaid' is the law's where the arguments, and the package variables that the reading takes, are together of bulk at most 1048576: NARROWER than '..Said'. Prove '..Said' where nothing that the law and all that it calls make is longer than what came in: it says more and counts as full. Else prove '..UptoSaid'. A law counts once. -/
mutual
def uptoBulk {H : Type} : DataW H → Nat
  | .lit (.string bytes) => bytes.length + 1
  | .lit _ => 1
  | .nil => 1
  | .ptr d => uptoBulk d + 1
  | .slice elems spare => uptoBulkAll elems + uptoBulkAll spare + 1
  | .agg parts => uptoBulkAll parts + 1
  | .iface _ d => uptoBulk d + 1
  | .map entries => uptoBulkEntries entries + 1
  | .held _ => 1
def uptoBulkAll {H : Type} : List (DataW H) → Nat
  | [] => 0
  | d :: r => uptoBulk d + uptoBulkAll r
def uptoBulkEntries {H : Type} : List (Lit × DataW H) → Nat
  | [] => 0
  | x :: r => uptoBulkEntry x + uptoBulkEntries r
def uptoBulkEntry {H : Type} : Lit × DataW H → Nat
  | (.string bytes, d) => bytes.length + uptoBulk d + 1
  | (_, d) => uptoBulk d + 1
 end
def uptoSmall : (H : Type) → List (DataW H) → Bool := fun _ ds => decide (uptoBulkAll ds ≤ 1048576)
def OpenSpec.upto (s : _root_.Go.ChangeSpec) : _root_.Go.OpenSpec := { _root_.Go.OpenSpec.ofChange s with cond := some uptoSmall }

/-- 'gloaminglaw01.GeomIndex', WHERE WHAT IT READS IS OF BULK AT MOST 1048576: true; the input reads as it did. -/
def geomIndexUptoRow : OpenClaim := { program := "ytfcnkfccjlbnhaa", sum := "95121bf19abd8c919a8e4800d29260686074420eecdb9bc72a3e3661c8ff317d", func := "gloaming/gloaminglaw01.GeomIndex", spec := "geomIndex", apart := false, narrowed := true }
def GeomIndexUptoSaid : Prop := geomIndexUptoRow.holds Try.pinned (OpenSpec.upto geomIndexSpec)

/-- 'gloaminglaw01.GeomFar', WHERE WHAT IT READS IS OF BULK AT MOST 1048576: true; the input reads as it did. -/
def geomFarUptoRow : OpenClaim := { program := "ytfcnkfccjlbnhaa", sum := "95121bf19abd8c919a8e4800d29260686074420eecdb9bc72a3e3661c8ff317d", func := "gloaming/gloaminglaw01.GeomFar", spec := "geomFar", apart := false, narrowed := true }
def GeomFarUptoSaid : Prop := geomFarUptoRow.holds Try.pinned (OpenSpec.upto geomFarSpec)

/-- 'gloaminglaw01.GeomOnce', WHERE WHAT IT READS IS OF BULK AT MOST 1048576: true; the input reads as it did. -/
def geomOnceUptoRow : OpenClaim := { program := "ytfcnkfccjlbnhaa", sum := "95121bf19abd8c919a8e4800d29260686074420eecdb9bc72a3e3661c8ff317d", func := "gloaming/gloaminglaw01.GeomOnce", spec := "geomOnce", apart := false, narrowed := true }
def GeomOnceUptoSaid : Prop := geomOnceUptoRow.holds Try.pinned (OpenSpec.upto geomOnceSpec)

/-- 'gloaminglaw01.GeomWalk', WHERE WHAT IT READS IS OF BULK AT MOST 1048576: true; the input reads as it did. -/
def geomWalkUptoRow : OpenClaim := { program := "ytfcnkfccjlbnhaa", sum := "95121bf19abd8c919a8e4800d29260686074420eecdb9bc72a3e3661c8ff317d", func := "gloaming/gloaminglaw01.GeomWalk", spec := "geomWalk", apart := false, narrowed := true }
def GeomWalkUptoSaid : Prop := geomWalkUptoRow.holds Try.pinned (OpenSpec.upto geomWalkSpec)

/-- 'gloaminglaw01.GeomBack', WHERE WHAT IT READS IS OF BULK AT MOST 1048576: true; the input reads as it did. -/
def geomBackUptoRow : OpenClaim := { program := "ytfcnkfccjlbnhaa", sum := "95121bf19abd8c919a8e4800d29260686074420eecdb9bc72a3e3661c8ff317d", func := "gloaming/gloaminglaw01.GeomBack", spec := "geomBack", unfollowed := true, recurses := true, apart := false, narrowed := true }
def GeomBackUptoSaid : Prop := geomBackUptoRow.holds Try.pinned (OpenSpec.upto geomBackSpec)

/-- 'gloaminglaw01.GeomBox', WHERE WHAT IT READS IS OF BULK AT MOST 1048576: true; the input reads as it did. -/
def geomBoxUptoRow : OpenClaim := { program := "ytfcnkfccjlbnhaa", sum := "95121bf19abd8c919a8e4800d29260686074420eecdb9bc72a3e3661c8ff317d", func := "gloaming/gloaminglaw01.GeomBox", spec := "geomBox", unfollowed := true, recurses := true, apart := false, narrowed := true }
def GeomBoxUptoSaid : Prop := geomBoxUptoRow.holds Try.pinned (OpenSpec.upto geomBoxSpec)

/-- 'gloaminglaw01.GeomFits', WHERE WHAT IT READS IS OF BULK AT MOST 1048576: true; the input reads as it did. -/
def geomFitsUptoRow : OpenClaim := { program := "ytfcnkfccjlbnhaa", sum := "95121bf19abd8c919a8e4800d29260686074420eecdb9bc72a3e3661c8ff317d", func := "gloaming/gloaminglaw01.GeomFits", spec := "geomFits", unfollowed := true, recurses := true, apart := false, narrowed := true }
def GeomFitsUptoSaid : Prop := geomFitsUptoRow.holds Try.pinned (OpenSpec.upto geomFitsSpec)

/-- 'gloaminglaw01.GeomSteps', WHERE WHAT IT READS IS OF BULK AT MOST 1048576: true; the input reads as it did. -/
def geomStepsUptoRow : OpenClaim := { program := "ytfcnkfccjlbnhaa", sum := "95121bf19abd8c919a8e4800d29260686074420eecdb9bc72a3e3661c8ff317d", func := "gloaming/gloaminglaw01.GeomSteps", spec := "geomSteps", unfollowed := true, recurses := true, apart := false, narrowed := true }
def GeomStepsUptoSaid : Prop := geomStepsUptoRow.holds Try.pinned (OpenSpec.upto geomStepsSpec)

end Rows
end Go.Proofs.Ytfcnkfccjlbnhaa

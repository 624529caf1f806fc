/-
  No cell of these rows narrows 'for every input' (looked for: loops, veiled, ifaces, maps, wideKeys, modest, calm, conditions, laid).
  DERIVED. THE GIVEN ROWS OF THIS SEAT. 5 by the template 'for every input the law returns true; each argument reads behind the call as it read before'; 0 by the template 'total and deterministic' (their statements: YtefjpccldjacfaaTotals.lean).
  GIVEN WITH THE SEED: the statements are not yours to turn. If you find one false, say at which input.
  Laid BY PROGRAM, IN A SANDBOX (cutbox-rows.mjs): the forced cells as the released guide's own fill.sh prints them over the translation 531c5fa0e6c06afc… (all of the seat's roots in one cut). By AI agents, Wed Nov 11 2026. No macro, syntax, notation, axiom, sorry.
-/
import Derived.Test.YtefjpccldjacfaaChecked
import GoSem.Claim
import GoSem.ClaimJoined
import GoSem.ClaimMapViews
import Derived.JoinedTies
import Derived.KernelRfl
namespace Go.Proofs.Ytefjpccldjacfaa
/- THE CELL 'sum', in the pinned program and in every row, IS THE sha256 OF THE DUMP (.gsa) THAT YtefjpccldjacfaaProg.lean LOADS. Nothing in Lean hashes anything: it is a label: what it is worth is what the hold of that sum in a sandbox is worth. -/
noncomputable def Try.pinned : Pinned := { name := "ytefjpccldjacfaa", sum := "531c5fa0e6c06afca514d00a5b68b0d1a65475f46447c108e992a70066418106", checked := Try.checked }
namespace Rows
def none {H : Type} : Left H := { results := [], args := [] }

/-- 'gloaminglaw09.RouteChecks': WHATEVER THE INPUT: true; the input reads as it did. -/
def routeChecksSpec : ChangeSpec := { name := "routeChecks", fn := fun _ => fun
  | [d1, d2] => { results := [.lit (.bool true)], args := [d1, d2] }
  | _ => none }
def routeChecksRow : OpenClaim := { program := "ytefjpccldjacfaa", sum := "531c5fa0e6c06afca514d00a5b68b0d1a65475f46447c108e992a70066418106", func := "gloaming/gloaminglaw09.RouteChecks", spec := "routeChecks", unfollowed := true, recurses := true, apart := false }
def RouteChecksSaid : Prop := routeChecksRow.holds Try.pinned (OpenSpec.ofChange routeChecksSpec)

/-- ITS FALSE NEIGHBOUR: 'it returns false'. Refute it at one input. -/
def routeChecksWrong : ChangeSpec := { name := "routeChecks", fn := fun _ => fun
  | [d1, d2] => { results := [.lit (.bool false)], args := [d1, d2] }
  | _ => none }
def RouteChecksWrongFalsely : Prop := routeChecksRow.holds Try.pinned (OpenSpec.ofChange routeChecksWrong)

/-- 'gloaminglaw09.RouteJoins': WHATEVER THE INPUT: true; the input reads as it did. -/
def routeJoinsSpec : ChangeSpec := { name := "routeJoins", fn := fun _ => fun
  | [d1, d2, d3] => { results := [.lit (.bool true)], args := [d1, d2, d3] }
  | _ => none }
def routeJoinsRow : OpenClaim := { program := "ytefjpccldjacfaa", sum := "531c5fa0e6c06afca514d00a5b68b0d1a65475f46447c108e992a70066418106", func := "gloaming/gloaminglaw09.RouteJoins", spec := "routeJoins", unfollowed := true, recurses := true, apart := false }
def RouteJoinsSaid : Prop := routeJoinsRow.holds Try.pinned (OpenSpec.ofChange routeJoinsSpec)

/-- ITS FALSE NEIGHBOUR: 'it returns false'. Refute it at one input. -/
def routeJoinsWrong : ChangeSpec := { name := "routeJoins", fn := fun _ => fun
  | [d1, d2, d3] => { results := [.lit (.bool false)], args := [d1, d2, d3] }
  | _ => none }
def RouteJoinsWrongFalsely : Prop := routeJoinsRow.holds Try.pinned (OpenSpec.ofChange routeJoinsWrong)

/-- 'gloaminglaw09.RouteTurns': WHATEVER THE INPUT: true; the input reads as it did. -/
def routeTurnsSpec : ChangeSpec := { name := "routeTurns", fn := fun _ => fun
  | [d1, d2] => { results := [.lit (.bool true)], args := [d1, d2] }
  | _ => none }
def routeTurnsRow : OpenClaim := { program := "ytefjpccldjacfaa", sum := "531c5fa0e6c06afca514d00a5b68b0d1a65475f46447c108e992a70066418106", func := "gloaming/gloaminglaw09.RouteTurns", spec := "routeTurns", unfollowed := true, recurses := true, apart := false }
def RouteTurnsSaid : Prop := routeTurnsRow.holds Try.pinned (OpenSpec.ofChange routeTurnsSpec)

/-- ITS FALSE NEIGHBOUR: 'it returns false'. Refute it at one input. -/
def routeTurnsWrong : ChangeSpec := { name := "routeTurns", fn := fun _ => fun
  | [d1, d2] => { results := [.lit (.bool false)], args := [d1, d2] }
  | _ => none }
def RouteTurnsWrongFalsely : Prop := routeTurnsRow.holds Try.pinned (OpenSpec.ofChange routeTurnsWrong)

/-- 'gloaminglaw09.RouteMoves': WHATEVER THE INPUT: true; the input reads as it did. -/
def routeMovesSpec : ChangeSpec := { name := "routeMoves", fn := fun _ => fun
  | [d1, d2, d3] => { results := [.lit (.bool true)], args := [d1, d2, d3] }
  | _ => none }
def routeMovesRow : OpenClaim := { program := "ytefjpccldjacfaa", sum := "531c5fa0e6c06afca514d00a5b68b0d1a65475f46447c108e992a70066418106", func := "gloaming/gloaminglaw09.RouteMoves", spec := "routeMoves", unfollowed := true, recurses := true, apart := false }
def RouteMovesSaid : Prop := routeMovesRow.holds Try.pinned (OpenSpec.ofChange routeMovesSpec)

/-- ITS FALSE NEIGHBOUR: 'it returns false'. Refute it at one input. -/
def routeMovesWrong : ChangeSpec := { name := "routeMoves", fn := fun _ => fun
  | [d1, d2, d3] => { results := [.lit (.bool false)], args := [d1, d2, d3] }
  | _ => none }
def RouteMovesWrongFalsely : Prop := routeMovesRow.holds Try.pinned (OpenSpec.ofChange routeMovesWrong)

/-- 'gloaminglaw09.RouteBacks': WHATEVER THE INPUT: true; the input reads as it did. -/
def routeBacksSpec : ChangeSpec := { name := "routeBacks", fn := fun _ => fun
  | [d1, d2, d3] => { results := [.lit (.bool true)], args := [d1, d2, d3] }
  | _ => none }
def routeBacksRow : OpenClaim := { program := "ytefjpccldjacfaa", sum := "531c5fa0e6c06afca514d00a5b68b0d1a65475f46447c108e992a70066418106", func := "gloaming/gloaminglaw09.RouteBacks", spec := "routeBacks", unfollowed := true, recurses := true, apart := false }
def RouteBacksSaid : Prop := routeBacksRow.holds Try.pinned (OpenSpec.ofChange routeBacksSpec)

/-- ITS FALSE NEIGHBOUR: 'it returns false'. Refute it at one input. -/
def routeBacksWrong : ChangeSpec := { name := "routeBacks", fn := fun _ => fun
  | [d1, d2, d3] => { results := [.lit (.bool false)], args := [d1, d2, d3] }
  | _ => none }
def RouteBacksWrongFalsely : Prop := routeBacksRow.holds Try.pinned (OpenSpec.ofChange routeBacksWrong)

/- THE SECOND FORM. 'bulk': how many values and letters a reading holds, each counted each time it is reached (what is shared counts as often as it is met; a slice's spare places count too). A statement '..UptoSaid' is the law's where the arguments, and the package variables that the reading takes, are together of bulk at most 1048576: NARROWER than '..Said'. Prove '..Said' where nothing that the law and all that it calls make is longer than what came in: it says more and counts as full. Else prove '..UptoSaid'. A law counts once. -/
mutual
def uptoBulk {H : Type} : DataW H → Nat
  | .lit (.string bytes) => bytes.length + 1
  | .lit _ => 1
  | .nil => 1
  | .ptr d => uptoBulk d + 1
  | .slice elems spare => uptoBulkAll elems + uptoBulkAll spare + 1
  | .agg parts => uptoBulkAll parts + 1
  | .iface _ d => uptoBulk d + 1
  | .map entries => uptoBulkEntries entries + 1
  | .held _ => 1
def uptoBulkAll {H : Type} : List (DataW H) → Nat
  | [] => 0
  | d :: r => uptoBulk d + uptoBulkAll r
def uptoBulkEntries {H : Type} : List (Lit × DataW H) → Nat
  | [] => 0
  | x :: r => uptoBulkEntry x + uptoBulkEntries r
def uptoBulkEntry {H : Type} : Lit × DataW H → Nat
  | (.string bytes, d) => bytes.length + uptoBulk d + 1
  | (_, d) => uptoBulk d + 1
 end
def uptoSmall : (H : Type) → List (DataW H) → Bool := fun _ ds => decide (uptoBulkAll ds ≤ 1048576)
def OpenSpec.upto (s : _root_.Go.ChangeSpec) : _root_.Go.OpenSpec := { _root_.Go.OpenSpec.ofChange s with cond := some uptoSmall }

/-- 'gloaminglaw09.RouteChecks', WHERE WHAT IT READS IS OF BULK AT MOST 1048576: true; the input reads as it did. -/
def routeChecksUptoRow : OpenClaim := { program := "ytefjpccldjacfaa", sum := "531c5fa0e6c06afca514d00a5b68b0d1a65475f46447c108e992a70066418106", func := "gloaming/gloaminglaw09.RouteChecks", spec := "routeChecks", unfollowed := true, recurses := true, apart := false, narrowed := true }
def RouteChecksUptoSaid : Prop := routeChecksUptoRow.holds Try.pinned (OpenSpec.upto routeChecksSpec)

/-- 'gloaminglaw09.RouteJoins', WHERE WHAT IT READS IS OF BULK AT MOST 1048576: true; the input reads as it did. -/
def routeJoinsUptoRow : OpenClaim := { program := "ytefjpccldjacfaa", sum := "531c5fa0e6c06afca514d00a5b68b0d1a65475f46447c108e992a70066418106", func := "gloaming/gloaminglaw09.RouteJoins", spec := "routeJoins", unfollowed := true, recurses := true, apart := false, narrowed := true }
def RouteJoinsUptoSaid : Prop := routeJoinsUptoRow.holds Try.pinned (OpenSpec.upto routeJoinsSpec)

/-- 'gloaminglaw09.RouteTurns', WHERE WHAT IT READS IS OF BULK AT MOST 1048576: true; the input reads as it did. -/
def routeTurnsUptoRow : OpenClaim := { program := "ytefjpccldjacfaa", sum := "531c5fa0e6c06afca514d00a5b68b0d1a65475f46447c108e992a70066418106", func := "gloaming/gloaminglaw09.RouteTurns", spec := "routeTurns", unfollowed := true, recurses := true, apart := false, narrowed := true }
def RouteTurnsUptoSaid : Prop := routeTurnsUptoRow.holds Try.pinned (OpenSpec.upto routeTurnsSpec)

/-- 'gloaminglaw09.RouteMoves', WHERE WHAT IT READS IS OF BULK AT MOST 1048576: true; the input reads as it did. -/
def routeMovesUptoRow : OpenClaim := { program := "ytefjpccldjacfaa", sum := "531c5fa0e6c06afca514d00a5b68b0d1a65475f46447c108e992a70066418106", func := "gloaming/gloaminglaw09.RouteMoves", spec := "routeMoves", unfollowed := true, recurses := true, apart := false, narrowed := true }
def RouteMovesUptoSaid : Prop := routeMovesUptoRow.holds Try.pinned (OpenSpec.upto routeMovesSpec)

/-- 'gloaminglaw09.RouteBacks', WHERE WHAT IT READS IS OF BULK AT MOST 1048576: true; the input reads as it did. -/
def routeBacksUptoRow : OpenClaim := { program := "ytefjpccldjacfaa", sum := "531c5fa0e6c06afca514d00a5b68b0d1a65475f46447c108e992a70066418106", func := "gloaming/gloaminglaw09.RouteBacks", spec := "routeBacks", unfollowed := true, recurses := true, apart := false, narrowed := true }
def RouteBacksUptoSaid : Prop := routeBacksUptoRow.holds Try.pinned (OpenSpec.upto routeBacksSpec)

end Rows
end Go.Proofs.Ytefjpccldjacfaa

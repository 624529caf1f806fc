/-
  No cell of these rows narrows 'for every input' (looked for: loops, veiled, ifaces, maps, wideKeys, modest, calm, conditions, laid).
  DERIVED. THE GIVEN ROWS OF THIS SEAT. 7 by the template 'for every input the law returns true; each argument reads behind the call as it read before'; 0 by the template 'total and deterministic' (their statements: YtkoimmfgbepgcaaTotals.lean).
  GIVEN WITH THE SEED: the statements are not yours to turn. If you find one false, say at which input.
  Laid BY PROGRAM, IN A SANDBOX (cutbox-rows.mjs): the forced cells as the released guide's own fill.sh prints them over the translation 8ae1539d53ed820d… (all of the seat's roots in one cut). By AI agents, Wed Nov 11 2026. No macro, syntax, notation, axiom, sorry.
-/
import Derived.Test.YtkoimmfgbepgcaaChecked
import GoSem.Claim
import GoSem.ClaimJoined
import GoSem.ClaimMapViews
import Derived.JoinedTies
import Derived.KernelRfl
namespace Go.Proofs.Ytkoimmfgbepgcaa
/- THE CELL 'sum', in the pinned program and in every row, IS THE sha256 OF THE DUMP (.gsa) THAT YtkoimmfgbepgcaaProg.lean LOADS. Nothing in Lean hashes anything: it is a label: what it is worth is what the hold of that sum in a sandbox is worth. -/
noncomputable def Try.pinned : Pinned := { name := "ytkoimmfgbepgcaa", sum := "8ae1539d53ed820d51f0be261009c55a42ce7d8c1d7a354ea1de61f55b5fb998", checked := Try.checked }
namespace Rows
def none {H : Type} : Left H := { results := [], args := [] }

/-- 'gloaminglaw05.SightLine': WHATEVER THE INPUT: true; the input reads as it did. -/
def sightLineSpec : ChangeSpec := { name := "sightLine", fn := fun _ => fun
  | [d1, d2] => { results := [.lit (.bool true)], args := [d1, d2] }
  | _ => none }
def sightLineRow : OpenClaim := { program := "ytkoimmfgbepgcaa", sum := "8ae1539d53ed820d51f0be261009c55a42ce7d8c1d7a354ea1de61f55b5fb998", func := "gloaming/gloaminglaw05.SightLine", spec := "sightLine", unfollowed := true, recurses := true, apart := false }
def SightLineSaid : Prop := sightLineRow.holds Try.pinned (OpenSpec.ofChange sightLineSpec)

/-- ITS FALSE NEIGHBOUR: 'it returns false'. Refute it at one input. -/
def sightLineWrong : ChangeSpec := { name := "sightLine", fn := fun _ => fun
  | [d1, d2] => { results := [.lit (.bool false)], args := [d1, d2] }
  | _ => none }
def SightLineWrongFalsely : Prop := sightLineRow.holds Try.pinned (OpenSpec.ofChange sightLineWrong)

/-- 'gloaminglaw05.SightWalks': WHATEVER THE INPUT: true; the input reads as it did. -/
def sightWalksSpec : ChangeSpec := { name := "sightWalks", fn := fun _ => fun
  | [d1, d2, d3] => { results := [.lit (.bool true)], args := [d1, d2, d3] }
  | _ => none }
def sightWalksRow : OpenClaim := { program := "ytkoimmfgbepgcaa", sum := "8ae1539d53ed820d51f0be261009c55a42ce7d8c1d7a354ea1de61f55b5fb998", func := "gloaming/gloaminglaw05.SightWalks", spec := "sightWalks", unfollowed := true, recurses := true, apart := false }
def SightWalksSaid : Prop := sightWalksRow.holds Try.pinned (OpenSpec.ofChange sightWalksSpec)

/-- ITS FALSE NEIGHBOUR: 'it returns false'. Refute it at one input. -/
def sightWalksWrong : ChangeSpec := { name := "sightWalks", fn := fun _ => fun
  | [d1, d2, d3] => { results := [.lit (.bool false)], args := [d1, d2, d3] }
  | _ => none }
def SightWalksWrongFalsely : Prop := sightWalksRow.holds Try.pinned (OpenSpec.ofChange sightWalksWrong)

/-- 'gloaminglaw05.SightEnds': WHATEVER THE INPUT: true; the input reads as it did. -/
def sightEndsSpec : ChangeSpec := { name := "sightEnds", fn := fun _ => fun
  | [d1, d2, d3] => { results := [.lit (.bool true)], args := [d1, d2, d3] }
  | _ => none }
def sightEndsRow : OpenClaim := { program := "ytkoimmfgbepgcaa", sum := "8ae1539d53ed820d51f0be261009c55a42ce7d8c1d7a354ea1de61f55b5fb998", func := "gloaming/gloaminglaw05.SightEnds", spec := "sightEnds", unfollowed := true, recurses := true, apart := false }
def SightEndsSaid : Prop := sightEndsRow.holds Try.pinned (OpenSpec.ofChange sightEndsSpec)

/-- ITS FALSE NEIGHBOUR: 'it returns false'. Refute it at one input. -/
def sightEndsWrong : ChangeSpec := { name := "sightEnds", fn := fun _ => fun
  | [d1, d2, d3] => { results := [.lit (.bool false)], args := [d1, d2, d3] }
  | _ => none }
def SightEndsWrongFalsely : Prop := sightEndsRow.holds Try.pinned (OpenSpec.ofChange sightEndsWrong)

/-- 'gloaminglaw05.SightNear': WHATEVER THE INPUT: true; the input reads as it did. -/
def sightNearSpec : ChangeSpec := { name := "sightNear", fn := fun _ => fun
  | [d1, d2, d3] => { results := [.lit (.bool true)], args := [d1, d2, d3] }
  | _ => none }
def sightNearRow : OpenClaim := { program := "ytkoimmfgbepgcaa", sum := "8ae1539d53ed820d51f0be261009c55a42ce7d8c1d7a354ea1de61f55b5fb998", func := "gloaming/gloaminglaw05.SightNear", spec := "sightNear", unfollowed := true, recurses := true, apart := false }
def SightNearSaid : Prop := sightNearRow.holds Try.pinned (OpenSpec.ofChange sightNearSpec)

/-- ITS FALSE NEIGHBOUR: 'it returns false'. Refute it at one input. -/
def sightNearWrong : ChangeSpec := { name := "sightNear", fn := fun _ => fun
  | [d1, d2, d3] => { results := [.lit (.bool false)], args := [d1, d2, d3] }
  | _ => none }
def SightNearWrongFalsely : Prop := sightNearRow.holds Try.pinned (OpenSpec.ofChange sightNearWrong)

/-- 'gloaminglaw05.SightHangs': WHATEVER THE INPUT: true; the input reads as it did. -/
def sightHangsSpec : ChangeSpec := { name := "sightHangs", fn := fun _ => fun
  | [d1, d2, d3] => { results := [.lit (.bool true)], args := [d1, d2, d3] }
  | _ => none }
def sightHangsRow : OpenClaim := { program := "ytkoimmfgbepgcaa", sum := "8ae1539d53ed820d51f0be261009c55a42ce7d8c1d7a354ea1de61f55b5fb998", func := "gloaming/gloaminglaw05.SightHangs", spec := "sightHangs", unfollowed := true, recurses := true, apart := false }
def SightHangsSaid : Prop := sightHangsRow.holds Try.pinned (OpenSpec.ofChange sightHangsSpec)

/-- ITS FALSE NEIGHBOUR: 'it returns false'. Refute it at one input. -/
def sightHangsWrong : ChangeSpec := { name := "sightHangs", fn := fun _ => fun
  | [d1, d2, d3] => { results := [.lit (.bool false)], args := [d1, d2, d3] }
  | _ => none }
def SightHangsWrongFalsely : Prop := sightHangsRow.holds Try.pinned (OpenSpec.ofChange sightHangsWrong)

/-- 'gloaminglaw05.SightSees': WHATEVER THE INPUT: true; the input reads as it did. -/
def sightSeesSpec : ChangeSpec := { name := "sightSees", fn := fun _ => fun
  | [d1, d2, d3] => { results := [.lit (.bool true)], args := [d1, d2, d3] }
  | _ => none }
def sightSeesRow : OpenClaim := { program := "ytkoimmfgbepgcaa", sum := "8ae1539d53ed820d51f0be261009c55a42ce7d8c1d7a354ea1de61f55b5fb998", func := "gloaming/gloaminglaw05.SightSees", spec := "sightSees", unfollowed := true, recurses := true, apart := false }
def SightSeesSaid : Prop := sightSeesRow.holds Try.pinned (OpenSpec.ofChange sightSeesSpec)

/-- ITS FALSE NEIGHBOUR: 'it returns false'. Refute it at one input. -/
def sightSeesWrong : ChangeSpec := { name := "sightSees", fn := fun _ => fun
  | [d1, d2, d3] => { results := [.lit (.bool false)], args := [d1, d2, d3] }
  | _ => none }
def SightSeesWrongFalsely : Prop := sightSeesRow.holds Try.pinned (OpenSpec.ofChange sightSeesWrong)

/-- 'gloaminglaw05.SightMore': WHATEVER THE INPUT: true; the input reads as it did. -/
def sightMoreSpec : ChangeSpec := { name := "sightMore", fn := fun _ => fun
  | [d1, d2, d3] => { results := [.lit (.bool true)], args := [d1, d2, d3] }
  | _ => none }
def sightMoreRow : OpenClaim := { program := "ytkoimmfgbepgcaa", sum := "8ae1539d53ed820d51f0be261009c55a42ce7d8c1d7a354ea1de61f55b5fb998", func := "gloaming/gloaminglaw05.SightMore", spec := "sightMore", unfollowed := true, recurses := true, apart := false }
def SightMoreSaid : Prop := sightMoreRow.holds Try.pinned (OpenSpec.ofChange sightMoreSpec)

/-- ITS FALSE NEIGHBOUR: 'it returns false'. Refute it at one input. -/
def sightMoreWrong : ChangeSpec := { name := "sightMore", fn := fun _ => fun
  | [d1, d2, d3] => { results := [.lit (.bool false)], args := [d1, d2, d3] }
  | _ => none }
def SightMoreWrongFalsely : Prop := sightMoreRow.holds Try.pinned (OpenSpec.ofChange sightMoreWrong)

/- THE SECOND FORM. 'bulk': how many values and letters a reading holds, each counted each time it is reached (what is shared counts as often as it is met; a slice's spare places count too). A statement '..UptoSaid' is the law's where the arguments, and the package variables that the reading takes, are together of bulk at most 1048576: NARROWER than '..Said'. Prove '..Said' where nothing that the law and all that it calls make is longer than what came in: it says more and counts as full. Else prove '..UptoSaid'. A law counts once. -/
mutual
def uptoBulk {H : Type} : DataW H → Nat
  | .lit (.string bytes) => bytes.length + 1
  | .lit _ => 1
  | .nil => 1
  | .ptr d => uptoBulk d + 1
  | .slice elems spare => uptoBulkAll elems + uptoBulkAll spare + 1
  | .agg parts => uptoBulkAll parts + 1
  | .iface _ d => uptoBulk d + 1
  | .map entries => uptoBulkEntries entries + 1
  | .held _ => 1
def uptoBulkAll {H : Type} : List (DataW H) → Nat
  | [] => 0
  | d :: r => uptoBulk d + uptoBulkAll r
def uptoBulkEntries {H : Type} : List (Lit × DataW H) → Nat
  | [] => 0
  | x :: r => uptoBulkEntry x + uptoBulkEntries r
def uptoBulkEntry {H : Type} : Lit × DataW H → Nat
  | (.string bytes, d) => bytes.length + uptoBulk d + 1
  | (_, d) => uptoBulk d + 1
 end
def uptoSmall : (H : Type) → List (DataW H) → Bool := fun _ ds => decide (uptoBulkAll ds ≤ 1048576)
def OpenSpec.upto (s : _root_.Go.ChangeSpec) : _root_.Go.OpenSpec := { _root_.Go.OpenSpec.ofChange s with cond := some uptoSmall }

/-- 'gloaminglaw05.SightLine', WHERE WHAT IT READS IS OF BULK AT MOST 1048576: true; the input reads as it did. -/
def sightLineUptoRow : OpenClaim := { program := "ytkoimmfgbepgcaa", sum := "8ae1539d53ed820d51f0be261009c55a42ce7d8c1d7a354ea1de61f55b5fb998", func := "gloaming/gloaminglaw05.SightLine", spec := "sightLine", unfollowed := true, recurses := true, apart := false, narrowed := true }
def SightLineUptoSaid : Prop := sightLineUptoRow.holds Try.pinned (OpenSpec.upto sightLineSpec)

/-- 'gloaminglaw05.SightWalks', WHERE WHAT IT READS IS OF BULK AT MOST 1048576: true; the input reads as it did. -/
def sightWalksUptoRow : OpenClaim := { program := "ytkoimmfgbepgcaa", sum := "8ae1539d53ed820d51f0be261009c55a42ce7d8c1d7a354ea1de61f55b5fb998", func := "gloaming/gloaminglaw05.SightWalks", spec := "sightWalks", unfollowed := true, recurses := true, apart := false, narrowed := true }
def SightWalksUptoSaid : Prop := sightWalksUptoRow.holds Try.pinned (OpenSpec.upto sightWalksSpec)

/-- 'gloaminglaw05.SightEnds', WHERE WHAT IT READS IS OF BULK AT MOST 1048576: true; the input reads as it did. -/
def sightEndsUptoRow : OpenClaim := { program := "ytkoimmfgbepgcaa", sum := "8ae1539d53ed820d51f0be261009c55a42ce7d8c1d7a354ea1de61f55b5fb998", func := "gloaming/gloaminglaw05.SightEnds", spec := "sightEnds", unfollowed := true, recurses := true, apart := false, narrowed := true }
def SightEndsUptoSaid : Prop := sightEndsUptoRow.holds Try.pinned (OpenSpec.upto sightEndsSpec)

/-- 'gloaminglaw05.SightNear', WHERE WHAT IT READS IS OF BULK AT MOST 1048576: true; the input reads as it did. -/
def sightNearUptoRow : OpenClaim := { program := "ytkoimmfgbepgcaa", sum := "8ae1539d53ed820d51f0be261009c55a42ce7d8c1d7a354ea1de61f55b5fb998", func := "gloaming/gloaminglaw05.SightNear", spec := "sightNear", unfollowed := true, recurses := true, apart := false, narrowed := true }
def SightNearUptoSaid : Prop := sightNearUptoRow.holds Try.pinned (OpenSpec.upto sightNearSpec)

/-- 'gloaminglaw05.SightHangs', WHERE WHAT IT READS IS OF BULK AT MOST 1048576: true; the input reads as it did. -/
def sightHangsUptoRow : OpenClaim := { program := "ytkoimmfgbepgcaa", sum := "8ae1539d53ed820d51f0be261009c55a42ce7d8c1d7a354ea1de61f55b5fb998", func := "gloaming/gloaminglaw05.SightHangs", spec := "sightHangs", unfollowed := true, recurses := true, apart := false, narrowed := true }
def SightHangsUptoSaid : Prop := sightHangsUptoRow.holds Try.pinned (OpenSpec.upto sightHangsSpec)

/-- 'gloaminglaw05.SightSees', WHERE WHAT IT READS IS OF BULK AT MOST 1048576: true; the input reads as it did. -/
def sightSeesUptoRow : OpenClaim := { program := "ytkoimmfgbepgcaa", sum := "8ae1539d53ed820d51f0be261009c55a42ce7d8c1d7a354ea1de61f55b5fb998", func := "gloaming/gloaminglaw05.SightSees", spec := "sightSees", unfollowed := true, recurses := true, apart := false, narrowed := true }
def SightSeesUptoSaid : Prop := sightSeesUptoRow.holds Try.pinned (OpenSpec.upto sightSeesSpec)

/-- 'gloaminglaw05.SightMore', WHERE WHAT IT READS IS OF BULK AT MOST 1048576: true; the input reads as it did. -/
def sightMoreUptoRow : OpenClaim := { program := "ytkoimmfgbepgcaa", sum := "8ae1539d53ed820d51f0be261009c55a42ce7d8c1d7a354ea1de61f55b5fb998", func := "gloaming/gloaminglaw05.SightMore", spec := "sightMore", unfollowed := true, recurses := true, apart := false, narrowed := true }
def SightMoreUptoSaid : Prop := sightMoreUptoRow.holds Try.pinned (OpenSpec.upto sightMoreSpec)

end Rows
end Go.Proofs.Ytkoimmfgbepgcaa

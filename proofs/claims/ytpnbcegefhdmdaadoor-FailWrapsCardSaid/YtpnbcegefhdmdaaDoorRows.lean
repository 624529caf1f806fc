/-
  NARROWER THAN 'FOR EVERY INPUT', by the rows' own cells (each row's printed sentence says how): FailLong: laid · FailWraps: laid · FailUnwraps: laid · FailRaises: laid · FailTexts: laid · FailIs: laid · FailAs: laid.
  DERIVED. THE GIVEN ROWS OF THIS SEAT. 7 by the template 'for every input the law returns true; each argument reads behind the call as it read before'; 0 by the template 'total and deterministic' (their statements: YtpnbcegefhdmdaaDoorTotals.lean).
  GIVEN WITH THE SEED: the statements are not yours to turn. If you find one false, say at which input.
  Laid BY PROGRAM, IN A SANDBOX (cutbox-rows.mjs): the forced cells as the released guide's own fill.sh prints them over the translation ffd87835b14bd886… (all of the seat's roots in one cut). By AI agents, Wed Nov 11 2026. No macro, syntax, notation, axiom, sorry.
-/
import Derived.Test.YtpnbcegefhdmdaaDoorChecked
import GoSem.Claim
import GoSem.ClaimJoined
import GoSem.ClaimMapViews
import Derived.JoinedTies
import Derived.KernelRfl
namespace Go.Proofs.YtpnbcegefhdmdaaDoor
/- THE CELL 'sum', in the pinned program and in every row, IS THE sha256 OF THE DUMP (.gsa) THAT YtpnbcegefhdmdaaDoorProg.lean LOADS. Nothing in Lean hashes anything: it is a label: what it is worth is what the hold of that sum in a sandbox is worth. -/
noncomputable def Tryd.pinned : Pinned := { name := "ytpnbcegefhdmdaadoor", sum := "ffd87835b14bd8861f2343867ebb157b005b4123598c5f633283a621fb8379cd", checked := Tryd.checked }
namespace Rows
def none {H : Type} : Left H := { results := [], args := [] }

/- WHAT THE LISTED PACKAGE-LEVEL VARIABLES READ AS WHEN THE CALL BEGINS. Each datum BY PROGRAM (the guide's laid-datum.mjs) off the statement by which the dump's own 'gosem.cut.vars' lays the variable. In a bare row this is a premise. The card (YtpnbcegefhdmdaaDoorCards.lean) ties it to the program's text. -/
def laid_errors_errorType {H : Type} : DataW H := .iface "internal/reflectlite.rtype" (.agg [.ptr (.lit (.string [101, 114, 114, 111, 114]))])

/-- 'gloaminglaw18.FailLong': WHATEVER THE INPUT: true; the input reads as it did. -/
def failLongSpec : ChangeSpec := { name := "failLong", fn := fun _ => fun
  | [d1, d2] => { results := [.lit (.bool true)], args := [d1, d2] }
  | _ => none }
def failLongRow : OpenClaim := { program := "ytpnbcegefhdmdaadoor", sum := "ffd87835b14bd8861f2343867ebb157b005b4123598c5f633283a621fb8379cd", func := "gloaming/gloaminglaw18.FailLong", spec := "failLong", inPlace := ["internal/reflectlite.ValueOf", "(internal/reflectlite.Value).Type", "(internal/reflectlite.Value).IsNil", "internal/reflectlite.TypeOf", "(internal/reflectlite.Value).Elem", "(internal/reflectlite.Value).Set"], unfollowed := true, recurses := true, named := ["errors.errorType"], apart := false, laid := [("errors.errorType", laid_errors_errorType)] }
def FailLongSaid : Prop := failLongRow.holds Tryd.pinned (OpenSpec.ofChange failLongSpec)

/-- ITS FALSE NEIGHBOUR: 'it returns false'. Refute it at one input. -/
def failLongWrong : ChangeSpec := { name := "failLong", fn := fun _ => fun
  | [d1, d2] => { results := [.lit (.bool false)], args := [d1, d2] }
  | _ => none }
def FailLongWrongFalsely : Prop := failLongRow.holds Tryd.pinned (OpenSpec.ofChange failLongWrong)

/-- 'gloaminglaw18.FailWraps': WHATEVER THE INPUT: true; the input reads as it did. -/
def failWrapsSpec : ChangeSpec := { name := "failWraps", fn := fun _ => fun
  | [d1, d2, d3] => { results := [.lit (.bool true)], args := [d1, d2, d3] }
  | _ => none }
def failWrapsRow : OpenClaim := { program := "ytpnbcegefhdmdaadoor", sum := "ffd87835b14bd8861f2343867ebb157b005b4123598c5f633283a621fb8379cd", func := "gloaming/gloaminglaw18.FailWraps", spec := "failWraps", inPlace := ["internal/reflectlite.ValueOf", "(internal/reflectlite.Value).Type", "(internal/reflectlite.Value).IsNil", "internal/reflectlite.TypeOf", "(internal/reflectlite.Value).Elem", "(internal/reflectlite.Value).Set"], unfollowed := true, recurses := true, named := ["errors.errorType"], apart := false, laid := [("errors.errorType", laid_errors_errorType)] }
def FailWrapsSaid : Prop := failWrapsRow.holds Tryd.pinned (OpenSpec.ofChange failWrapsSpec)

/-- ITS FALSE NEIGHBOUR: 'it returns false'. Refute it at one input. -/
def failWrapsWrong : ChangeSpec := { name := "failWraps", fn := fun _ => fun
  | [d1, d2, d3] => { results := [.lit (.bool false)], args := [d1, d2, d3] }
  | _ => none }
def FailWrapsWrongFalsely : Prop := failWrapsRow.holds Tryd.pinned (OpenSpec.ofChange failWrapsWrong)

/-- 'gloaminglaw18.FailUnwraps': WHATEVER THE INPUT: true; the input reads as it did. -/
def failUnwrapsSpec : ChangeSpec := { name := "failUnwraps", fn := fun _ => fun
  | [d1, d2, d3] => { results := [.lit (.bool true)], args := [d1, d2, d3] }
  | _ => none }
def failUnwrapsRow : OpenClaim := { program := "ytpnbcegefhdmdaadoor", sum := "ffd87835b14bd8861f2343867ebb157b005b4123598c5f633283a621fb8379cd", func := "gloaming/gloaminglaw18.FailUnwraps", spec := "failUnwraps", inPlace := ["internal/reflectlite.ValueOf", "(internal/reflectlite.Value).Type", "(internal/reflectlite.Value).IsNil", "internal/reflectlite.TypeOf", "(internal/reflectlite.Value).Elem", "(internal/reflectlite.Value).Set"], unfollowed := true, recurses := true, named := ["errors.errorType"], apart := false, laid := [("errors.errorType", laid_errors_errorType)] }
def FailUnwrapsSaid : Prop := failUnwrapsRow.holds Tryd.pinned (OpenSpec.ofChange failUnwrapsSpec)

/-- ITS FALSE NEIGHBOUR: 'it returns false'. Refute it at one input. -/
def failUnwrapsWrong : ChangeSpec := { name := "failUnwraps", fn := fun _ => fun
  | [d1, d2, d3] => { results := [.lit (.bool false)], args := [d1, d2, d3] }
  | _ => none }
def FailUnwrapsWrongFalsely : Prop := failUnwrapsRow.holds Tryd.pinned (OpenSpec.ofChange failUnwrapsWrong)

/-- 'gloaminglaw18.FailRaises': WHATEVER THE INPUT: true; the input reads as it did. -/
def failRaisesSpec : ChangeSpec := { name := "failRaises", fn := fun _ => fun
  | [d1, d2, d3] => { results := [.lit (.bool true)], args := [d1, d2, d3] }
  | _ => none }
def failRaisesRow : OpenClaim := { program := "ytpnbcegefhdmdaadoor", sum := "ffd87835b14bd8861f2343867ebb157b005b4123598c5f633283a621fb8379cd", func := "gloaming/gloaminglaw18.FailRaises", spec := "failRaises", inPlace := ["internal/reflectlite.ValueOf", "(internal/reflectlite.Value).Type", "(internal/reflectlite.Value).IsNil", "internal/reflectlite.TypeOf", "(internal/reflectlite.Value).Elem", "(internal/reflectlite.Value).Set"], unfollowed := true, recurses := true, named := ["errors.errorType"], apart := false, laid := [("errors.errorType", laid_errors_errorType)] }
def FailRaisesSaid : Prop := failRaisesRow.holds Tryd.pinned (OpenSpec.ofChange failRaisesSpec)

/-- ITS FALSE NEIGHBOUR: 'it returns false'. Refute it at one input. -/
def failRaisesWrong : ChangeSpec := { name := "failRaises", fn := fun _ => fun
  | [d1, d2, d3] => { results := [.lit (.bool false)], args := [d1, d2, d3] }
  | _ => none }
def FailRaisesWrongFalsely : Prop := failRaisesRow.holds Tryd.pinned (OpenSpec.ofChange failRaisesWrong)

/-- 'gloaminglaw18.FailTexts': WHATEVER THE INPUT: true; the input reads as it did. -/
def failTextsSpec : ChangeSpec := { name := "failTexts", fn := fun _ => fun
  | [d1, d2] => { results := [.lit (.bool true)], args := [d1, d2] }
  | _ => none }
def failTextsRow : OpenClaim := { program := "ytpnbcegefhdmdaadoor", sum := "ffd87835b14bd8861f2343867ebb157b005b4123598c5f633283a621fb8379cd", func := "gloaming/gloaminglaw18.FailTexts", spec := "failTexts", inPlace := ["internal/reflectlite.ValueOf", "(internal/reflectlite.Value).Type", "(internal/reflectlite.Value).IsNil", "internal/reflectlite.TypeOf", "(internal/reflectlite.Value).Elem", "(internal/reflectlite.Value).Set"], unfollowed := true, recurses := true, named := ["errors.errorType"], apart := false, laid := [("errors.errorType", laid_errors_errorType)] }
def FailTextsSaid : Prop := failTextsRow.holds Tryd.pinned (OpenSpec.ofChange failTextsSpec)

/-- ITS FALSE NEIGHBOUR: 'it returns false'. Refute it at one input. -/
def failTextsWrong : ChangeSpec := { name := "failTexts", fn := fun _ => fun
  | [d1, d2] => { results := [.lit (.bool false)], args := [d1, d2] }
  | _ => none }
def FailTextsWrongFalsely : Prop := failTextsRow.holds Tryd.pinned (OpenSpec.ofChange failTextsWrong)

/-- 'gloaminglaw18.FailIs': WHATEVER THE INPUT: true; the input reads as it did. -/
def failIsSpec : ChangeSpec := { name := "failIs", fn := fun _ => fun
  | [d1, d2] => { results := [.lit (.bool true)], args := [d1, d2] }
  | _ => none }
def failIsRow : OpenClaim := { program := "ytpnbcegefhdmdaadoor", sum := "ffd87835b14bd8861f2343867ebb157b005b4123598c5f633283a621fb8379cd", func := "gloaming/gloaminglaw18.FailIs", spec := "failIs", inPlace := ["internal/reflectlite.ValueOf", "(internal/reflectlite.Value).Type", "(internal/reflectlite.Value).IsNil", "internal/reflectlite.TypeOf", "(internal/reflectlite.Value).Elem", "(internal/reflectlite.Value).Set"], unfollowed := true, recurses := true, named := ["errors.errorType"], apart := false, laid := [("errors.errorType", laid_errors_errorType)] }
def FailIsSaid : Prop := failIsRow.holds Tryd.pinned (OpenSpec.ofChange failIsSpec)

/-- ITS FALSE NEIGHBOUR: 'it returns false'. Refute it at one input. -/
def failIsWrong : ChangeSpec := { name := "failIs", fn := fun _ => fun
  | [d1, d2] => { results := [.lit (.bool false)], args := [d1, d2] }
  | _ => none }
def FailIsWrongFalsely : Prop := failIsRow.holds Tryd.pinned (OpenSpec.ofChange failIsWrong)

/-- 'gloaminglaw18.FailAs': WHATEVER THE INPUT: true; the input reads as it did. -/
def failAsSpec : ChangeSpec := { name := "failAs", fn := fun _ => fun
  | [d] => { results := [.lit (.bool true)], args := [d] }
  | _ => none }
def failAsRow : OpenClaim := { program := "ytpnbcegefhdmdaadoor", sum := "ffd87835b14bd8861f2343867ebb157b005b4123598c5f633283a621fb8379cd", func := "gloaming/gloaminglaw18.FailAs", spec := "failAs", inPlace := ["internal/reflectlite.ValueOf", "(internal/reflectlite.Value).Type", "(internal/reflectlite.Value).IsNil", "internal/reflectlite.TypeOf", "(internal/reflectlite.Value).Elem", "(internal/reflectlite.Value).Set"], unfollowed := true, recurses := true, named := ["errors.errorType"], apart := false, laid := [("errors.errorType", laid_errors_errorType)] }
def FailAsSaid : Prop := failAsRow.holds Tryd.pinned (OpenSpec.ofChange failAsSpec)

/-- ITS FALSE NEIGHBOUR: 'it returns false'. Refute it at one input. -/
def failAsWrong : ChangeSpec := { name := "failAs", fn := fun _ => fun
  | [d] => { results := [.lit (.bool false)], args := [d] }
  | _ => none }
def FailAsWrongFalsely : Prop := failAsRow.holds Tryd.pinned (OpenSpec.ofChange failAsWrong)

/- THE SECOND FORM. 'bulk': how many values and letters a reading holds, each counted each time it is reached (what is shared counts as often as it is met; a slice's spare places count too). A statement '..UptoSaid' is the law's where the arguments, and the package variables that the reading takes, are together of bulk at most 1048576: NARROWER than '..Said'. Prove '..Said' where nothing that the law and all that it calls make is longer than what came in: it says more and counts as full. Else prove '..UptoSaid'. A law counts once. -/
mutual
def uptoBulk {H : Type} : DataW H → Nat
  | .lit (.string bytes) => bytes.length + 1
  | .lit _ => 1
  | .nil => 1
  | .ptr d => uptoBulk d + 1
  | .slice elems spare => uptoBulkAll elems + uptoBulkAll spare + 1
  | .agg parts => uptoBulkAll parts + 1
  | .iface _ d => uptoBulk d + 1
  | .map entries => uptoBulkEntries entries + 1
  | .held _ => 1
def uptoBulkAll {H : Type} : List (DataW H) → Nat
  | [] => 0
  | d :: r => uptoBulk d + uptoBulkAll r
def uptoBulkEntries {H : Type} : List (Lit × DataW H) → Nat
  | [] => 0
  | x :: r => uptoBulkEntry x + uptoBulkEntries r
def uptoBulkEntry {H : Type} : Lit × DataW H → Nat
  | (.string bytes, d) => bytes.length + uptoBulk d + 1
  | (_, d) => uptoBulk d + 1
 end
def uptoSmall : (H : Type) → List (DataW H) → Bool := fun _ ds => decide (uptoBulkAll ds ≤ 1048576)
def OpenSpec.upto (s : _root_.Go.ChangeSpec) : _root_.Go.OpenSpec := { _root_.Go.OpenSpec.ofChange s with cond := some uptoSmall }

/-- 'gloaminglaw18.FailLong', WHERE WHAT IT READS IS OF BULK AT MOST 1048576: true; the input reads as it did. -/
def failLongUptoRow : OpenClaim := { program := "ytpnbcegefhdmdaadoor", sum := "ffd87835b14bd8861f2343867ebb157b005b4123598c5f633283a621fb8379cd", func := "gloaming/gloaminglaw18.FailLong", spec := "failLong", inPlace := ["internal/reflectlite.ValueOf", "(internal/reflectlite.Value).Type", "(internal/reflectlite.Value).IsNil", "internal/reflectlite.TypeOf", "(internal/reflectlite.Value).Elem", "(internal/reflectlite.Value).Set"], unfollowed := true, recurses := true, named := ["errors.errorType"], apart := false, laid := [("errors.errorType", laid_errors_errorType)], narrowed := true }
def FailLongUptoSaid : Prop := failLongUptoRow.holds Tryd.pinned (OpenSpec.upto failLongSpec)

/-- 'gloaminglaw18.FailWraps', WHERE WHAT IT READS IS OF BULK AT MOST 1048576: true; the input reads as it did. -/
def failWrapsUptoRow : OpenClaim := { program := "ytpnbcegefhdmdaadoor", sum := "ffd87835b14bd8861f2343867ebb157b005b4123598c5f633283a621fb8379cd", func := "gloaming/gloaminglaw18.FailWraps", spec := "failWraps", inPlace := ["internal/reflectlite.ValueOf", "(internal/reflectlite.Value).Type", "(internal/reflectlite.Value).IsNil", "internal/reflectlite.TypeOf", "(internal/reflectlite.Value).Elem", "(internal/reflectlite.Value).Set"], unfollowed := true, recurses := true, named := ["errors.errorType"], apart := false, laid := [("errors.errorType", laid_errors_errorType)], narrowed := true }
def FailWrapsUptoSaid : Prop := failWrapsUptoRow.holds Tryd.pinned (OpenSpec.upto failWrapsSpec)

/-- 'gloaminglaw18.FailUnwraps', WHERE WHAT IT READS IS OF BULK AT MOST 1048576: true; the input reads as it did. -/
def failUnwrapsUptoRow : OpenClaim := { program := "ytpnbcegefhdmdaadoor", sum := "ffd87835b14bd8861f2343867ebb157b005b4123598c5f633283a621fb8379cd", func := "gloaming/gloaminglaw18.FailUnwraps", spec := "failUnwraps", inPlace := ["internal/reflectlite.ValueOf", "(internal/reflectlite.Value).Type", "(internal/reflectlite.Value).IsNil", "internal/reflectlite.TypeOf", "(internal/reflectlite.Value).Elem", "(internal/reflectlite.Value).Set"], unfollowed := true, recurses := true, named := ["errors.errorType"], apart := false, laid := [("errors.errorType", laid_errors_errorType)], narrowed := true }
def FailUnwrapsUptoSaid : Prop := failUnwrapsUptoRow.holds Tryd.pinned (OpenSpec.upto failUnwrapsSpec)

/-- 'gloaminglaw18.FailRaises', WHERE WHAT IT READS IS OF BULK AT MOST 1048576: true; the input reads as it did. -/
def failRaisesUptoRow : OpenClaim := { program := "ytpnbcegefhdmdaadoor", sum := "ffd87835b14bd8861f2343867ebb157b005b4123598c5f633283a621fb8379cd", func := "gloaming/gloaminglaw18.FailRaises", spec := "failRaises", inPlace := ["internal/reflectlite.ValueOf", "(internal/reflectlite.Value).Type", "(internal/reflectlite.Value).IsNil", "internal/reflectlite.TypeOf", "(internal/reflectlite.Value).Elem", "(internal/reflectlite.Value).Set"], unfollowed := true, recurses := true, named := ["errors.errorType"], apart := false, laid := [("errors.errorType", laid_errors_errorType)], narrowed := true }
def FailRaisesUptoSaid : Prop := failRaisesUptoRow.holds Tryd.pinned (OpenSpec.upto failRaisesSpec)

/-- 'gloaminglaw18.FailTexts', WHERE WHAT IT READS IS OF BULK AT MOST 1048576: true; the input reads as it did. -/
def failTextsUptoRow : OpenClaim := { program := "ytpnbcegefhdmdaadoor", sum := "ffd87835b14bd8861f2343867ebb157b005b4123598c5f633283a621fb8379cd", func := "gloaming/gloaminglaw18.FailTexts", spec := "failTexts", inPlace := ["internal/reflectlite.ValueOf", "(internal/reflectlite.Value).Type", "(internal/reflectlite.Value).IsNil", "internal/reflectlite.TypeOf", "(internal/reflectlite.Value).Elem", "(internal/reflectlite.Value).Set"], unfollowed := true, recurses := true, named := ["errors.errorType"], apart := false, laid := [("errors.errorType", laid_errors_errorType)], narrowed := true }
def FailTextsUptoSaid : Prop := failTextsUptoRow.holds Tryd.pinned (OpenSpec.upto failTextsSpec)

/-- 'gloaminglaw18.FailIs', WHERE WHAT IT READS IS OF BULK AT MOST 1048576: true; the input reads as it did. -/
def failIsUptoRow : OpenClaim := { program := "ytpnbcegefhdmdaadoor", sum := "ffd87835b14bd8861f2343867ebb157b005b4123598c5f633283a621fb8379cd", func := "gloaming/gloaminglaw18.FailIs", spec := "failIs", inPlace := ["internal/reflectlite.ValueOf", "(internal/reflectlite.Value).Type", "(internal/reflectlite.Value).IsNil", "internal/reflectlite.TypeOf", "(internal/reflectlite.Value).Elem", "(internal/reflectlite.Value).Set"], unfollowed := true, recurses := true, named := ["errors.errorType"], apart := false, laid := [("errors.errorType", laid_errors_errorType)], narrowed := true }
def FailIsUptoSaid : Prop := failIsUptoRow.holds Tryd.pinned (OpenSpec.upto failIsSpec)

/-- 'gloaminglaw18.FailAs', WHERE WHAT IT READS IS OF BULK AT MOST 1048576: true; the input reads as it did. -/
def failAsUptoRow : OpenClaim := { program := "ytpnbcegefhdmdaadoor", sum := "ffd87835b14bd8861f2343867ebb157b005b4123598c5f633283a621fb8379cd", func := "gloaming/gloaminglaw18.FailAs", spec := "failAs", inPlace := ["internal/reflectlite.ValueOf", "(internal/reflectlite.Value).Type", "(internal/reflectlite.Value).IsNil", "internal/reflectlite.TypeOf", "(internal/reflectlite.Value).Elem", "(internal/reflectlite.Value).Set"], unfollowed := true, recurses := true, named := ["errors.errorType"], apart := false, laid := [("errors.errorType", laid_errors_errorType)], narrowed := true }
def FailAsUptoSaid : Prop := failAsUptoRow.holds Tryd.pinned (OpenSpec.upto failAsSpec)

end Rows
end Go.Proofs.YtpnbcegefhdmdaaDoor

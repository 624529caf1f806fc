/-
  NARROWER THAN 'FOR EVERY INPUT', by the rows' own cells (each row's printed sentence says how): MsgEncodes: laid · MsgWrites: laid · MsgTells: laid · MsgBack: laid · MsgCuts: laid · MsgDecodes: laid · MsgParses: laid.
  DERIVED. THE GIVEN ROWS OF THIS SEAT. 7 by the template 'for every input the law returns true; each argument reads behind the call as it read before'; 0 by the template 'total and deterministic' (their statements: YtnaclkdjchnbpaaDoorTotals.lean).
  GIVEN WITH THE SEED: the statements are not yours to turn. If you find one false, say at which input.
  Laid BY PROGRAM, IN A SANDBOX (cutbox-rows.mjs): the forced cells as the released guide's own fill.sh prints them over the translation 33eb0d498cec635b… (all of the seat's roots in one cut). By AI agents, Wed Nov 11 2026. No macro, syntax, notation, axiom, sorry.
-/
import Derived.Test.YtnaclkdjchnbpaaDoorChecked
import GoSem.Claim
import GoSem.ClaimJoined
import GoSem.ClaimMapViews
import Derived.JoinedTies
import Derived.KernelRfl
namespace Go.Proofs.YtnaclkdjchnbpaaDoor
/- THE CELL 'sum', in the pinned program and in every row, IS THE sha256 OF THE DUMP (.gsa) THAT YtnaclkdjchnbpaaDoorProg.lean LOADS. Nothing in Lean hashes anything: it is a label: what it is worth is what the hold of that sum in a sandbox is worth. -/
noncomputable def Tryd.pinned : Pinned := { name := "ytnaclkdjchnbpaadoor", sum := "33eb0d498cec635b150a030cdcb725076f81ff6d851e15b040082a93cf8a3252", checked := Tryd.checked }
namespace Rows
def none {H : Type} : Left H := { results := [], args := [] }

/- WHAT THE LISTED PACKAGE-LEVEL VARIABLES READ AS WHEN THE CALL BEGINS. Each datum BY PROGRAM (the guide's laid-datum.mjs) off the statement by which the dump's own 'gosem.cut.vars' lays the variable. In a bare row this is a premise. The card (YtnaclkdjchnbpaaDoorCards.lean) ties it to the program's text. -/
def laid_errors_errorType {H : Type} : DataW H := .iface "internal/reflectlite.rtype" (.agg [.ptr (.lit (.string [101, 114, 114, 111, 114]))])

/-- 'gloaminglaw20.MsgEncodes': WHATEVER THE INPUT: true; the input reads as it did. -/
def msgEncodesSpec : ChangeSpec := { name := "msgEncodes", fn := fun _ => fun
  | [d] => { results := [.lit (.bool true)], args := [d] }
  | _ => none }
def msgEncodesRow : OpenClaim := { program := "ytnaclkdjchnbpaadoor", sum := "33eb0d498cec635b150a030cdcb725076f81ff6d851e15b040082a93cf8a3252", func := "gloaming/gloaminglaw20.MsgEncodes", spec := "msgEncodes", inPlace := ["internal/reflectlite.ValueOf", "(internal/reflectlite.Value).Type", "(internal/reflectlite.Value).IsNil", "internal/reflectlite.TypeOf", "(internal/reflectlite.Value).Elem", "(internal/reflectlite.Value).Set"], unfollowed := true, recurses := true, named := ["errors.errorType"], apart := false, laid := [("errors.errorType", laid_errors_errorType)] }
def MsgEncodesSaid : Prop := msgEncodesRow.holds Tryd.pinned (OpenSpec.ofChange msgEncodesSpec)

/-- ITS FALSE NEIGHBOUR: 'it returns false'. Refute it at one input. -/
def msgEncodesWrong : ChangeSpec := { name := "msgEncodes", fn := fun _ => fun
  | [d] => { results := [.lit (.bool false)], args := [d] }
  | _ => none }
def MsgEncodesWrongFalsely : Prop := msgEncodesRow.holds Tryd.pinned (OpenSpec.ofChange msgEncodesWrong)

/-- 'gloaminglaw20.MsgWrites': WHATEVER THE INPUT: true; the input reads as it did. -/
def msgWritesSpec : ChangeSpec := { name := "msgWrites", fn := fun _ => fun
  | [d] => { results := [.lit (.bool true)], args := [d] }
  | _ => none }
def msgWritesRow : OpenClaim := { program := "ytnaclkdjchnbpaadoor", sum := "33eb0d498cec635b150a030cdcb725076f81ff6d851e15b040082a93cf8a3252", func := "gloaming/gloaminglaw20.MsgWrites", spec := "msgWrites", inPlace := ["internal/reflectlite.ValueOf", "(internal/reflectlite.Value).Type", "(internal/reflectlite.Value).IsNil", "internal/reflectlite.TypeOf", "(internal/reflectlite.Value).Elem", "(internal/reflectlite.Value).Set"], unfollowed := true, recurses := true, named := ["errors.errorType"], apart := false, laid := [("errors.errorType", laid_errors_errorType)] }
def MsgWritesSaid : Prop := msgWritesRow.holds Tryd.pinned (OpenSpec.ofChange msgWritesSpec)

/-- ITS FALSE NEIGHBOUR: 'it returns false'. Refute it at one input. -/
def msgWritesWrong : ChangeSpec := { name := "msgWrites", fn := fun _ => fun
  | [d] => { results := [.lit (.bool false)], args := [d] }
  | _ => none }
def MsgWritesWrongFalsely : Prop := msgWritesRow.holds Tryd.pinned (OpenSpec.ofChange msgWritesWrong)

/-- 'gloaminglaw20.MsgTells': WHATEVER THE INPUT: true; the input reads as it did. -/
def msgTellsSpec : ChangeSpec := { name := "msgTells", fn := fun _ => fun
  | [d1, d2, d3] => { results := [.lit (.bool true)], args := [d1, d2, d3] }
  | _ => none }
def msgTellsRow : OpenClaim := { program := "ytnaclkdjchnbpaadoor", sum := "33eb0d498cec635b150a030cdcb725076f81ff6d851e15b040082a93cf8a3252", func := "gloaming/gloaminglaw20.MsgTells", spec := "msgTells", inPlace := ["internal/reflectlite.ValueOf", "(internal/reflectlite.Value).Type", "(internal/reflectlite.Value).IsNil", "internal/reflectlite.TypeOf", "(internal/reflectlite.Value).Elem", "(internal/reflectlite.Value).Set"], unfollowed := true, recurses := true, named := ["errors.errorType"], apart := false, laid := [("errors.errorType", laid_errors_errorType)] }
def MsgTellsSaid : Prop := msgTellsRow.holds Tryd.pinned (OpenSpec.ofChange msgTellsSpec)

/-- ITS FALSE NEIGHBOUR: 'it returns false'. Refute it at one input. -/
def msgTellsWrong : ChangeSpec := { name := "msgTells", fn := fun _ => fun
  | [d1, d2, d3] => { results := [.lit (.bool false)], args := [d1, d2, d3] }
  | _ => none }
def MsgTellsWrongFalsely : Prop := msgTellsRow.holds Tryd.pinned (OpenSpec.ofChange msgTellsWrong)

/-- 'gloaminglaw20.MsgBack': WHATEVER THE INPUT: true; the input reads as it did. -/
def msgBackSpec : ChangeSpec := { name := "msgBack", fn := fun _ => fun
  | [d1, d2] => { results := [.lit (.bool true)], args := [d1, d2] }
  | _ => none }
def msgBackRow : OpenClaim := { program := "ytnaclkdjchnbpaadoor", sum := "33eb0d498cec635b150a030cdcb725076f81ff6d851e15b040082a93cf8a3252", func := "gloaming/gloaminglaw20.MsgBack", spec := "msgBack", inPlace := ["internal/reflectlite.ValueOf", "(internal/reflectlite.Value).Type", "(internal/reflectlite.Value).IsNil", "internal/reflectlite.TypeOf", "(internal/reflectlite.Value).Elem", "(internal/reflectlite.Value).Set"], unfollowed := true, recurses := true, named := ["errors.errorType"], apart := false, laid := [("errors.errorType", laid_errors_errorType)] }
def MsgBackSaid : Prop := msgBackRow.holds Tryd.pinned (OpenSpec.ofChange msgBackSpec)

/-- ITS FALSE NEIGHBOUR: 'it returns false'. Refute it at one input. -/
def msgBackWrong : ChangeSpec := { name := "msgBack", fn := fun _ => fun
  | [d1, d2] => { results := [.lit (.bool false)], args := [d1, d2] }
  | _ => none }
def MsgBackWrongFalsely : Prop := msgBackRow.holds Tryd.pinned (OpenSpec.ofChange msgBackWrong)

/-- 'gloaminglaw20.MsgCuts': WHATEVER THE INPUT: true; the input reads as it did. -/
def msgCutsSpec : ChangeSpec := { name := "msgCuts", fn := fun _ => fun
  | [d1, d2, d3] => { results := [.lit (.bool true)], args := [d1, d2, d3] }
  | _ => none }
def msgCutsRow : OpenClaim := { program := "ytnaclkdjchnbpaadoor", sum := "33eb0d498cec635b150a030cdcb725076f81ff6d851e15b040082a93cf8a3252", func := "gloaming/gloaminglaw20.MsgCuts", spec := "msgCuts", inPlace := ["internal/reflectlite.ValueOf", "(internal/reflectlite.Value).Type", "(internal/reflectlite.Value).IsNil", "internal/reflectlite.TypeOf", "(internal/reflectlite.Value).Elem", "(internal/reflectlite.Value).Set"], unfollowed := true, recurses := true, named := ["errors.errorType"], apart := false, laid := [("errors.errorType", laid_errors_errorType)] }
def MsgCutsSaid : Prop := msgCutsRow.holds Tryd.pinned (OpenSpec.ofChange msgCutsSpec)

/-- ITS FALSE NEIGHBOUR: 'it returns false'. Refute it at one input. -/
def msgCutsWrong : ChangeSpec := { name := "msgCuts", fn := fun _ => fun
  | [d1, d2, d3] => { results := [.lit (.bool false)], args := [d1, d2, d3] }
  | _ => none }
def MsgCutsWrongFalsely : Prop := msgCutsRow.holds Tryd.pinned (OpenSpec.ofChange msgCutsWrong)

/-- 'gloaminglaw20.MsgDecodes': WHATEVER THE INPUT: true; the input reads as it did. -/
def msgDecodesSpec : ChangeSpec := { name := "msgDecodes", fn := fun _ => fun
  | [d] => { results := [.lit (.bool true)], args := [d] }
  | _ => none }
def msgDecodesRow : OpenClaim := { program := "ytnaclkdjchnbpaadoor", sum := "33eb0d498cec635b150a030cdcb725076f81ff6d851e15b040082a93cf8a3252", func := "gloaming/gloaminglaw20.MsgDecodes", spec := "msgDecodes", inPlace := ["internal/reflectlite.ValueOf", "(internal/reflectlite.Value).Type", "(internal/reflectlite.Value).IsNil", "internal/reflectlite.TypeOf", "(internal/reflectlite.Value).Elem", "(internal/reflectlite.Value).Set"], unfollowed := true, recurses := true, named := ["errors.errorType"], apart := false, laid := [("errors.errorType", laid_errors_errorType)] }
def MsgDecodesSaid : Prop := msgDecodesRow.holds Tryd.pinned (OpenSpec.ofChange msgDecodesSpec)

/-- ITS FALSE NEIGHBOUR: 'it returns false'. Refute it at one input. -/
def msgDecodesWrong : ChangeSpec := { name := "msgDecodes", fn := fun _ => fun
  | [d] => { results := [.lit (.bool false)], args := [d] }
  | _ => none }
def MsgDecodesWrongFalsely : Prop := msgDecodesRow.holds Tryd.pinned (OpenSpec.ofChange msgDecodesWrong)

/-- 'gloaminglaw20.MsgParses': WHATEVER THE INPUT: true; the input reads as it did. -/
def msgParsesSpec : ChangeSpec := { name := "msgParses", fn := fun _ => fun
  | [d] => { results := [.lit (.bool true)], args := [d] }
  | _ => none }
def msgParsesRow : OpenClaim := { program := "ytnaclkdjchnbpaadoor", sum := "33eb0d498cec635b150a030cdcb725076f81ff6d851e15b040082a93cf8a3252", func := "gloaming/gloaminglaw20.MsgParses", spec := "msgParses", inPlace := ["internal/reflectlite.ValueOf", "(internal/reflectlite.Value).Type", "(internal/reflectlite.Value).IsNil", "internal/reflectlite.TypeOf", "(internal/reflectlite.Value).Elem", "(internal/reflectlite.Value).Set"], unfollowed := true, recurses := true, named := ["errors.errorType"], apart := false, laid := [("errors.errorType", laid_errors_errorType)] }
def MsgParsesSaid : Prop := msgParsesRow.holds Tryd.pinned (OpenSpec.ofChange msgParsesSpec)

/-- ITS FALSE NEIGHBOUR: 'it returns false'. Refute it at one input. -/
def msgParsesWrong : ChangeSpec := { name := "msgParses", fn := fun _ => fun
  | [d] => { results := [.lit (.bool false)], args := [d] }
  | _ => none }
def MsgParsesWrongFalsely : Prop := msgParsesRow.holds Tryd.pinned (OpenSpec.ofChange msgParsesWrong)

/- THE SECOND FORM. 'bulk': how many values and letters a reading holds, each counted each time it is reached (what is shared counts as often as it is met; a slice's spare places count too). A statement '..UptoSaid' is the law's where the arguments, and the package variables that the reading takes, are together of bulk at most 1048576: NARROWER than '..Said'. Prove '..Said' where nothing that the law and all that it calls make is longer than what came in: it says more and counts as full. Else prove '..UptoSaid'. A law counts once. -/
mutual
def uptoBulk {H : Type} : DataW H → Nat
  | .lit (.string bytes) => bytes.length + 1
  | .lit _ => 1
  | .nil => 1
  | .ptr d => uptoBulk d + 1
  | .slice elems spare => uptoBulkAll elems + uptoBulkAll spare + 1
  | .agg parts => uptoBulkAll parts + 1
  | .iface _ d => uptoBulk d + 1
  | .map entries => uptoBulkEntries entries + 1
  | .held _ => 1
def uptoBulkAll {H : Type} : List (DataW H) → Nat
  | [] => 0
  | d :: r => uptoBulk d + uptoBulkAll r
def uptoBulkEntries {H : Type} : List (Lit × DataW H) → Nat
  | [] => 0
  | x :: r => uptoBulkEntry x + uptoBulkEntries r
def uptoBulkEntry {H : Type} : Lit × DataW H → Nat
  | (.string bytes, d) => bytes.length + uptoBulk d + 1
  | (_, d) => uptoBulk d + 1
 end
def uptoSmall : (H : Type) → List (DataW H) → Bool := fun _ ds => decide (uptoBulkAll ds ≤ 1048576)
def OpenSpec.upto (s : _root_.Go.ChangeSpec) : _root_.Go.OpenSpec := { _root_.Go.OpenSpec.ofChange s with cond := some uptoSmall }

/-- 'gloaminglaw20.MsgEncodes', WHERE WHAT IT READS IS OF BULK AT MOST 1048576: true; the input reads as it did. -/
def msgEncodesUptoRow : OpenClaim := { program := "ytnaclkdjchnbpaadoor", sum := "33eb0d498cec635b150a030cdcb725076f81ff6d851e15b040082a93cf8a3252", func := "gloaming/gloaminglaw20.MsgEncodes", spec := "msgEncodes", inPlace := ["internal/reflectlite.ValueOf", "(internal/reflectlite.Value).Type", "(internal/reflectlite.Value).IsNil", "internal/reflectlite.TypeOf", "(internal/reflectlite.Value).Elem", "(internal/reflectlite.Value).Set"], unfollowed := true, recurses := true, named := ["errors.errorType"], apart := false, laid := [("errors.errorType", laid_errors_errorType)], narrowed := true }
def MsgEncodesUptoSaid : Prop := msgEncodesUptoRow.holds Tryd.pinned (OpenSpec.upto msgEncodesSpec)

/-- 'gloaminglaw20.MsgWrites', WHERE WHAT IT READS IS OF BULK AT MOST 1048576: true; the input reads as it did. -/
def msgWritesUptoRow : OpenClaim := { program := "ytnaclkdjchnbpaadoor", sum := "33eb0d498cec635b150a030cdcb725076f81ff6d851e15b040082a93cf8a3252", func := "gloaming/gloaminglaw20.MsgWrites", spec := "msgWrites", inPlace := ["internal/reflectlite.ValueOf", "(internal/reflectlite.Value).Type", "(internal/reflectlite.Value).IsNil", "internal/reflectlite.TypeOf", "(internal/reflectlite.Value).Elem", "(internal/reflectlite.Value).Set"], unfollowed := true, recurses := true, named := ["errors.errorType"], apart := false, laid := [("errors.errorType", laid_errors_errorType)], narrowed := true }
def MsgWritesUptoSaid : Prop := msgWritesUptoRow.holds Tryd.pinned (OpenSpec.upto msgWritesSpec)

/-- 'gloaminglaw20.MsgTells', WHERE WHAT IT READS IS OF BULK AT MOST 1048576: true; the input reads as it did. -/
def msgTellsUptoRow : OpenClaim := { program := "ytnaclkdjchnbpaadoor", sum := "33eb0d498cec635b150a030cdcb725076f81ff6d851e15b040082a93cf8a3252", func := "gloaming/gloaminglaw20.MsgTells", spec := "msgTells", inPlace := ["internal/reflectlite.ValueOf", "(internal/reflectlite.Value).Type", "(internal/reflectlite.Value).IsNil", "internal/reflectlite.TypeOf", "(internal/reflectlite.Value).Elem", "(internal/reflectlite.Value).Set"], unfollowed := true, recurses := true, named := ["errors.errorType"], apart := false, laid := [("errors.errorType", laid_errors_errorType)], narrowed := true }
def MsgTellsUptoSaid : Prop := msgTellsUptoRow.holds Tryd.pinned (OpenSpec.upto msgTellsSpec)

/-- 'gloaminglaw20.MsgBack', WHERE WHAT IT READS IS OF BULK AT MOST 1048576: true; the input reads as it did. -/
def msgBackUptoRow : OpenClaim := { program := "ytnaclkdjchnbpaadoor", sum := "33eb0d498cec635b150a030cdcb725076f81ff6d851e15b040082a93cf8a3252", func := "gloaming/gloaminglaw20.MsgBack", spec := "msgBack", inPlace := ["internal/reflectlite.ValueOf", "(internal/reflectlite.Value).Type", "(internal/reflectlite.Value).IsNil", "internal/reflectlite.TypeOf", "(internal/reflectlite.Value).Elem", "(internal/reflectlite.Value).Set"], unfollowed := true, recurses := true, named := ["errors.errorType"], apart := false, laid := [("errors.errorType", laid_errors_errorType)], narrowed := true }
def MsgBackUptoSaid : Prop := msgBackUptoRow.holds Tryd.pinned (OpenSpec.upto msgBackSpec)

/-- 'gloaminglaw20.MsgCuts', WHERE WHAT IT READS IS OF BULK AT MOST 1048576: true; the input reads as it did. -/
def msgCutsUptoRow : OpenClaim := { program := "ytnaclkdjchnbpaadoor", sum := "33eb0d498cec635b150a030cdcb725076f81ff6d851e15b040082a93cf8a3252", func := "gloaming/gloaminglaw20.MsgCuts", spec := "msgCuts", inPlace := ["internal/reflectlite.ValueOf", "(internal/reflectlite.Value).Type", "(internal/reflectlite.Value).IsNil", "internal/reflectlite.TypeOf", "(internal/reflectlite.Value).Elem", "(internal/reflectlite.Value).Set"], unfollowed := true, recurses := true, named := ["errors.errorType"], apart := false, laid := [("errors.errorType", laid_errors_errorType)], narrowed := true }
def MsgCutsUptoSaid : Prop := msgCutsUptoRow.holds Tryd.pinned (OpenSpec.upto msgCutsSpec)

/-- 'gloaminglaw20.MsgDecodes', WHERE WHAT IT READS IS OF BULK AT MOST 1048576: true; the input reads as it did. -/
def msgDecodesUptoRow : OpenClaim := { program := "ytnaclkdjchnbpaadoor", sum := "33eb0d498cec635b150a030cdcb725076f81ff6d851e15b040082a93cf8a3252", func := "gloaming/gloaminglaw20.MsgDecodes", spec := "msgDecodes", inPlace := ["internal/reflectlite.ValueOf", "(internal/reflectlite.Value).Type", "(internal/reflectlite.Value).IsNil", "internal/reflectlite.TypeOf", "(internal/reflectlite.Value).Elem", "(internal/reflectlite.Value).Set"], unfollowed := true, recurses := true, named := ["errors.errorType"], apart := false, laid := [("errors.errorType", laid_errors_errorType)], narrowed := true }
def MsgDecodesUptoSaid : Prop := msgDecodesUptoRow.holds Tryd.pinned (OpenSpec.upto msgDecodesSpec)

/-- 'gloaminglaw20.MsgParses', WHERE WHAT IT READS IS OF BULK AT MOST 1048576: true; the input reads as it did. -/
def msgParsesUptoRow : OpenClaim := { program := "ytnaclkdjchnbpaadoor", sum := "33eb0d498cec635b150a030cdcb725076f81ff6d851e15b040082a93cf8a3252", func := "gloaming/gloaminglaw20.MsgParses", spec := "msgParses", inPlace := ["internal/reflectlite.ValueOf", "(internal/reflectlite.Value).Type", "(internal/reflectlite.Value).IsNil", "internal/reflectlite.TypeOf", "(internal/reflectlite.Value).Elem", "(internal/reflectlite.Value).Set"], unfollowed := true, recurses := true, named := ["errors.errorType"], apart := false, laid := [("errors.errorType", laid_errors_errorType)], narrowed := true }
def MsgParsesUptoSaid : Prop := msgParsesUptoRow.holds Tryd.pinned (OpenSpec.upto msgParsesSpec)

end Rows
end Go.Proofs.YtnaclkdjchnbpaaDoor

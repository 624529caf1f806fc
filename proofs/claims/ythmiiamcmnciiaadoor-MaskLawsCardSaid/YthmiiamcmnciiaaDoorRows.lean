/-
  NARROWER THAN 'FOR EVERY INPUT', by the rows' own cells (each row's printed sentence says how): MaskActs: laid · MaskOf: laid · MaskLaws: laid · MaskJoins: laid · MaskNil: laid · MaskTells: laid.
  DERIVED. THE GIVEN ROWS OF THIS SEAT. 6 by the template 'for every input the law returns true; each argument reads behind the call as it read before'; 0 by the template 'total and deterministic' (their statements: YthmiiamcmnciiaaDoorTotals.lean).
  GIVEN WITH THE SEED: the statements are not yours to turn. If you find one false, say at which input.
  Laid BY PROGRAM, IN A SANDBOX (cutbox-rows.mjs): the forced cells as the released guide's own fill.sh prints them over the translation b08d29301aa3bf92… (all of the seat's roots in one cut). By AI agents, Wed Nov 11 2026. No macro, syntax, notation, axiom, sorry.
-/
import Derived.Test.YthmiiamcmnciiaaDoorChecked
import GoSem.Claim
import GoSem.ClaimJoined
import GoSem.ClaimMapViews
import Derived.JoinedTies
import Derived.KernelRfl
namespace Go.Proofs.YthmiiamcmnciiaaDoor
/- THE CELL 'sum', in the pinned program and in every row, IS THE sha256 OF THE DUMP (.gsa) THAT YthmiiamcmnciiaaDoorProg.lean LOADS. Nothing in Lean hashes anything: it is a label: what it is worth is what the hold of that sum in a sandbox is worth. -/
noncomputable def Tryd.pinned : Pinned := { name := "ythmiiamcmnciiaadoor", sum := "b08d29301aa3bf92d5bf99a3aebb65f34566ffdf64724e71c3edcae5d6c72e56", checked := Tryd.checked }
namespace Rows
def none {H : Type} : Left H := { results := [], args := [] }

/- WHAT THE LISTED PACKAGE-LEVEL VARIABLES READ AS WHEN THE CALL BEGINS. Each datum BY PROGRAM (the guide's laid-datum.mjs) off the statement by which the dump's own 'gosem.cut.vars' lays the variable. In a bare row this is a premise. The card (YthmiiamcmnciiaaDoorCards.lean) ties it to the program's text. -/
def laid_math_bits_deBruijn64tab {H : Type} : DataW H := .agg [.lit (.int .u8 0), .lit (.int .u8 1), .lit (.int .u8 56), .lit (.int .u8 2), .lit (.int .u8 57), .lit (.int .u8 49), .lit (.int .u8 28), .lit (.int .u8 3), .lit (.int .u8 61), .lit (.int .u8 58), .lit (.int .u8 42), .lit (.int .u8 50), .lit (.int .u8 38), .lit (.int .u8 29), .lit (.int .u8 17), .lit (.int .u8 4), .lit (.int .u8 62), .lit (.int .u8 47), .lit (.int .u8 59), .lit (.int .u8 36), .lit (.int .u8 45), .lit (.int .u8 43), .lit (.int .u8 51), .lit (.int .u8 22), .lit (.int .u8 53), .lit (.int .u8 39), .lit (.int .u8 33), .lit (.int .u8 30), .lit (.int .u8 24), .lit (.int .u8 18), .lit (.int .u8 12), .lit (.int .u8 5), .lit (.int .u8 63), .lit (.int .u8 55), .lit (.int .u8 48), .lit (.int .u8 27), .lit (.int .u8 60), .lit (.int .u8 41), .lit (.int .u8 37), .lit (.int .u8 16), .lit (.int .u8 46), .lit (.int .u8 35), .lit (.int .u8 44), .lit (.int .u8 21), .lit (.int .u8 52), .lit (.int .u8 32), .lit (.int .u8 23), .lit (.int .u8 11), .lit (.int .u8 54), .lit (.int .u8 26), .lit (.int .u8 40), .lit (.int .u8 15), .lit (.int .u8 34), .lit (.int .u8 20), .lit (.int .u8 31), .lit (.int .u8 10), .lit (.int .u8 25), .lit (.int .u8 14), .lit (.int .u8 19), .lit (.int .u8 9), .lit (.int .u8 13), .lit (.int .u8 8), .lit (.int .u8 7), .lit (.int .u8 6)]

/-- 'gloaminglaw02.MaskActs': WHATEVER THE INPUT: true; the input reads as it did. -/
def maskActsSpec : ChangeSpec := { name := "maskActs", fn := fun _ => fun
  | [d1, d2] => { results := [.lit (.bool true)], args := [d1, d2] }
  | _ => none }
def maskActsRow : OpenClaim := { program := "ythmiiamcmnciiaadoor", sum := "b08d29301aa3bf92d5bf99a3aebb65f34566ffdf64724e71c3edcae5d6c72e56", func := "gloaming/gloaminglaw02.MaskActs", spec := "maskActs", unfollowed := true, recurses := true, named := ["math/bits.deBruijn64tab"], apart := false, laid := [("math/bits.deBruijn64tab", laid_math_bits_deBruijn64tab)] }
def MaskActsSaid : Prop := maskActsRow.holds Tryd.pinned (OpenSpec.ofChange maskActsSpec)

/-- ITS FALSE NEIGHBOUR: 'it returns false'. Refute it at one input. -/
def maskActsWrong : ChangeSpec := { name := "maskActs", fn := fun _ => fun
  | [d1, d2] => { results := [.lit (.bool false)], args := [d1, d2] }
  | _ => none }
def MaskActsWrongFalsely : Prop := maskActsRow.holds Tryd.pinned (OpenSpec.ofChange maskActsWrong)

/-- 'gloaminglaw02.MaskOf': WHATEVER THE INPUT: true; the input reads as it did. -/
def maskOfSpec : ChangeSpec := { name := "maskOf", fn := fun _ => fun
  | [d1, d2] => { results := [.lit (.bool true)], args := [d1, d2] }
  | _ => none }
def maskOfRow : OpenClaim := { program := "ythmiiamcmnciiaadoor", sum := "b08d29301aa3bf92d5bf99a3aebb65f34566ffdf64724e71c3edcae5d6c72e56", func := "gloaming/gloaminglaw02.MaskOf", spec := "maskOf", unfollowed := true, recurses := true, named := ["math/bits.deBruijn64tab"], apart := false, laid := [("math/bits.deBruijn64tab", laid_math_bits_deBruijn64tab)] }
def MaskOfSaid : Prop := maskOfRow.holds Tryd.pinned (OpenSpec.ofChange maskOfSpec)

/-- ITS FALSE NEIGHBOUR: 'it returns false'. Refute it at one input. -/
def maskOfWrong : ChangeSpec := { name := "maskOf", fn := fun _ => fun
  | [d1, d2] => { results := [.lit (.bool false)], args := [d1, d2] }
  | _ => none }
def MaskOfWrongFalsely : Prop := maskOfRow.holds Tryd.pinned (OpenSpec.ofChange maskOfWrong)

/-- 'gloaminglaw02.MaskLaws': WHATEVER THE INPUT: true; the input reads as it did. -/
def maskLawsSpec : ChangeSpec := { name := "maskLaws", fn := fun _ => fun
  | [d1, d2] => { results := [.lit (.bool true)], args := [d1, d2] }
  | _ => none }
def maskLawsRow : OpenClaim := { program := "ythmiiamcmnciiaadoor", sum := "b08d29301aa3bf92d5bf99a3aebb65f34566ffdf64724e71c3edcae5d6c72e56", func := "gloaming/gloaminglaw02.MaskLaws", spec := "maskLaws", unfollowed := true, recurses := true, named := ["math/bits.deBruijn64tab"], apart := false, laid := [("math/bits.deBruijn64tab", laid_math_bits_deBruijn64tab)] }
def MaskLawsSaid : Prop := maskLawsRow.holds Tryd.pinned (OpenSpec.ofChange maskLawsSpec)

/-- ITS FALSE NEIGHBOUR: 'it returns false'. Refute it at one input. -/
def maskLawsWrong : ChangeSpec := { name := "maskLaws", fn := fun _ => fun
  | [d1, d2] => { results := [.lit (.bool false)], args := [d1, d2] }
  | _ => none }
def MaskLawsWrongFalsely : Prop := maskLawsRow.holds Tryd.pinned (OpenSpec.ofChange maskLawsWrong)

/-- 'gloaminglaw02.MaskJoins': WHATEVER THE INPUT: true; the input reads as it did. -/
def maskJoinsSpec : ChangeSpec := { name := "maskJoins", fn := fun _ => fun
  | [d1, d2, d3] => { results := [.lit (.bool true)], args := [d1, d2, d3] }
  | _ => none }
def maskJoinsRow : OpenClaim := { program := "ythmiiamcmnciiaadoor", sum := "b08d29301aa3bf92d5bf99a3aebb65f34566ffdf64724e71c3edcae5d6c72e56", func := "gloaming/gloaminglaw02.MaskJoins", spec := "maskJoins", unfollowed := true, recurses := true, named := ["math/bits.deBruijn64tab"], apart := false, laid := [("math/bits.deBruijn64tab", laid_math_bits_deBruijn64tab)] }
def MaskJoinsSaid : Prop := maskJoinsRow.holds Tryd.pinned (OpenSpec.ofChange maskJoinsSpec)

/-- ITS FALSE NEIGHBOUR: 'it returns false'. Refute it at one input. -/
def maskJoinsWrong : ChangeSpec := { name := "maskJoins", fn := fun _ => fun
  | [d1, d2, d3] => { results := [.lit (.bool false)], args := [d1, d2, d3] }
  | _ => none }
def MaskJoinsWrongFalsely : Prop := maskJoinsRow.holds Tryd.pinned (OpenSpec.ofChange maskJoinsWrong)

/-- 'gloaminglaw02.MaskNil': WHATEVER THE INPUT: true; the input reads as it did. -/
def maskNilSpec : ChangeSpec := { name := "maskNil", fn := fun _ => fun
  | [d1, d2, d3] => { results := [.lit (.bool true)], args := [d1, d2, d3] }
  | _ => none }
def maskNilRow : OpenClaim := { program := "ythmiiamcmnciiaadoor", sum := "b08d29301aa3bf92d5bf99a3aebb65f34566ffdf64724e71c3edcae5d6c72e56", func := "gloaming/gloaminglaw02.MaskNil", spec := "maskNil", unfollowed := true, recurses := true, named := ["math/bits.deBruijn64tab"], apart := false, laid := [("math/bits.deBruijn64tab", laid_math_bits_deBruijn64tab)] }
def MaskNilSaid : Prop := maskNilRow.holds Tryd.pinned (OpenSpec.ofChange maskNilSpec)

/-- ITS FALSE NEIGHBOUR: 'it returns false'. Refute it at one input. -/
def maskNilWrong : ChangeSpec := { name := "maskNil", fn := fun _ => fun
  | [d1, d2, d3] => { results := [.lit (.bool false)], args := [d1, d2, d3] }
  | _ => none }
def MaskNilWrongFalsely : Prop := maskNilRow.holds Tryd.pinned (OpenSpec.ofChange maskNilWrong)

/-- 'gloaminglaw02.MaskTells': WHATEVER THE INPUT: true; the input reads as it did. -/
def maskTellsSpec : ChangeSpec := { name := "maskTells", fn := fun _ => fun
  | [d1, d2, d3] => { results := [.lit (.bool true)], args := [d1, d2, d3] }
  | _ => none }
def maskTellsRow : OpenClaim := { program := "ythmiiamcmnciiaadoor", sum := "b08d29301aa3bf92d5bf99a3aebb65f34566ffdf64724e71c3edcae5d6c72e56", func := "gloaming/gloaminglaw02.MaskTells", spec := "maskTells", unfollowed := true, recurses := true, named := ["math/bits.deBruijn64tab"], apart := false, laid := [("math/bits.deBruijn64tab", laid_math_bits_deBruijn64tab)] }
def MaskTellsSaid : Prop := maskTellsRow.holds Tryd.pinned (OpenSpec.ofChange maskTellsSpec)

/-- ITS FALSE NEIGHBOUR: 'it returns false'. Refute it at one input. -/
def maskTellsWrong : ChangeSpec := { name := "maskTells", fn := fun _ => fun
  | [d1, d2, d3] => { results := [.lit (.bool false)], args := [d1, d2, d3] }
  | _ => none }
def MaskTellsWrongFalsely : Prop := maskTellsRow.holds Tryd.pinned (OpenSpec.ofChange maskTellsWrong)

/- THE SECOND FORM. 'bulk': how many values and letters a reading holds, each counted each time it is reached (what is shared counts as often as it is met; a slice's spare places count too). A statement '..UptoSaid' is the law's where the arguments, and the package variables that the reading takes, are together of bulk at most 1048576: NARROWER than '..Said'. Prove '..Said' where nothing that the law and all that it calls make is longer than what came in: it says more and counts as full. Else prove '..UptoSaid'. A law counts once. -/
mutual
def uptoBulk {H : Type} : DataW H → Nat
  | .lit (.string bytes) => bytes.length + 1
  | .lit _ => 1
  | .nil => 1
  | .ptr d => uptoBulk d + 1
  | .slice elems spare => uptoBulkAll elems + uptoBulkAll spare + 1
  | .agg parts => uptoBulkAll parts + 1
  | .iface _ d => uptoBulk d + 1
  | .map entries => uptoBulkEntries entries + 1
  | .held _ => 1
def uptoBulkAll {H : Type} : List (DataW H) → Nat
  | [] => 0
  | d :: r => uptoBulk d + uptoBulkAll r
def uptoBulkEntries {H : Type} : List (Lit × DataW H) → Nat
  | [] => 0
  | x :: r => uptoBulkEntry x + uptoBulkEntries r
def uptoBulkEntry {H : Type} : Lit × DataW H → Nat
  | (.string bytes, d) => bytes.length + uptoBulk d + 1
  | (_, d) => uptoBulk d + 1
 end
def uptoSmall : (H : Type) → List (DataW H) → Bool := fun _ ds => decide (uptoBulkAll ds ≤ 1048576)
def OpenSpec.upto (s : _root_.Go.ChangeSpec) : _root_.Go.OpenSpec := { _root_.Go.OpenSpec.ofChange s with cond := some uptoSmall }

/-- 'gloaminglaw02.MaskActs', WHERE WHAT IT READS IS OF BULK AT MOST 1048576: true; the input reads as it did. -/
def maskActsUptoRow : OpenClaim := { program := "ythmiiamcmnciiaadoor", sum := "b08d29301aa3bf92d5bf99a3aebb65f34566ffdf64724e71c3edcae5d6c72e56", func := "gloaming/gloaminglaw02.MaskActs", spec := "maskActs", unfollowed := true, recurses := true, named := ["math/bits.deBruijn64tab"], apart := false, laid := [("math/bits.deBruijn64tab", laid_math_bits_deBruijn64tab)], narrowed := true }
def MaskActsUptoSaid : Prop := maskActsUptoRow.holds Tryd.pinned (OpenSpec.upto maskActsSpec)

/-- 'gloaminglaw02.MaskOf', WHERE WHAT IT READS IS OF BULK AT MOST 1048576: true; the input reads as it did. -/
def maskOfUptoRow : OpenClaim := { program := "ythmiiamcmnciiaadoor", sum := "b08d29301aa3bf92d5bf99a3aebb65f34566ffdf64724e71c3edcae5d6c72e56", func := "gloaming/gloaminglaw02.MaskOf", spec := "maskOf", unfollowed := true, recurses := true, named := ["math/bits.deBruijn64tab"], apart := false, laid := [("math/bits.deBruijn64tab", laid_math_bits_deBruijn64tab)], narrowed := true }
def MaskOfUptoSaid : Prop := maskOfUptoRow.holds Tryd.pinned (OpenSpec.upto maskOfSpec)

/-- 'gloaminglaw02.MaskLaws', WHERE WHAT IT READS IS OF BULK AT MOST 1048576: true; the input reads as it did. -/
def maskLawsUptoRow : OpenClaim := { program := "ythmiiamcmnciiaadoor", sum := "b08d29301aa3bf92d5bf99a3aebb65f34566ffdf64724e71c3edcae5d6c72e56", func := "gloaming/gloaminglaw02.MaskLaws", spec := "maskLaws", unfollowed := true, recurses := true, named := ["math/bits.deBruijn64tab"], apart := false, laid := [("math/bits.deBruijn64tab", laid_math_bits_deBruijn64tab)], narrowed := true }
def MaskLawsUptoSaid : Prop := maskLawsUptoRow.holds Tryd.pinned (OpenSpec.upto maskLawsSpec)

/-- 'gloaminglaw02.MaskJoins', WHERE WHAT IT READS IS OF BULK AT MOST 1048576: true; the input reads as it did. -/
def maskJoinsUptoRow : OpenClaim := { program := "ythmiiamcmnciiaadoor", sum := "b08d29301aa3bf92d5bf99a3aebb65f34566ffdf64724e71c3edcae5d6c72e56", func := "gloaming/gloaminglaw02.MaskJoins", spec := "maskJoins", unfollowed := true, recurses := true, named := ["math/bits.deBruijn64tab"], apart := false, laid := [("math/bits.deBruijn64tab", laid_math_bits_deBruijn64tab)], narrowed := true }
def MaskJoinsUptoSaid : Prop := maskJoinsUptoRow.holds Tryd.pinned (OpenSpec.upto maskJoinsSpec)

/-- 'gloaminglaw02.MaskNil', WHERE WHAT IT READS IS OF BULK AT MOST 1048576: true; the input reads as it did. -/
def maskNilUptoRow : OpenClaim := { program := "ythmiiamcmnciiaadoor", sum := "b08d29301aa3bf92d5bf99a3aebb65f34566ffdf64724e71c3edcae5d6c72e56", func := "gloaming/gloaminglaw02.MaskNil", spec := "maskNil", unfollowed := true, recurses := true, named := ["math/bits.deBruijn64tab"], apart := false, laid := [("math/bits.deBruijn64tab", laid_math_bits_deBruijn64tab)], narrowed := true }
def MaskNilUptoSaid : Prop := maskNilUptoRow.holds Tryd.pinned (OpenSpec.upto maskNilSpec)

/-- 'gloaminglaw02.MaskTells', WHERE WHAT IT READS IS OF BULK AT MOST 1048576: true; the input reads as it did. -/
def maskTellsUptoRow : OpenClaim := { program := "ythmiiamcmnciiaadoor", sum := "b08d29301aa3bf92d5bf99a3aebb65f34566ffdf64724e71c3edcae5d6c72e56", func := "gloaming/gloaminglaw02.MaskTells", spec := "maskTells", unfollowed := true, recurses := true, named := ["math/bits.deBruijn64tab"], apart := false, laid := [("math/bits.deBruijn64tab", laid_math_bits_deBruijn64tab)], narrowed := true }
def MaskTellsUptoSaid : Prop := maskTellsUptoRow.holds Tryd.pinned (OpenSpec.upto maskTellsSpec)

end Rows
end Go.Proofs.YthmiiamcmnciiaaDoor

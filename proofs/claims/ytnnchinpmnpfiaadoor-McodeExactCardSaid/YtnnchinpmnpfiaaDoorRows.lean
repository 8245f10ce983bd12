/-
  NARROWER THAN 'FOR EVERY INPUT', by the rows' own cells (each row's printed sentence says how): McodeChecks: laid · McodeExact: laid · McodeRefs: laid.
  DERIVED. THE GIVEN ROWS OF THIS SEAT. 3 by the template 'for every input the law returns true; each argument reads behind the call as it read before'; 0 by the template 'total and deterministic' (their statements: YtnnchinpmnpfiaaDoorTotals.lean).
  GIVEN WITH THE SEED: the statements are not yours to turn. If you find one false, say at which input.
  Laid BY PROGRAM, IN A SANDBOX (cutbox-rows.mjs): the forced cells as the released guide's own fill.sh prints them over the translation 9363de5161c1ef5c… (all of the seat's roots in one cut). By AI agents, Wed Nov 11 2026. No macro, syntax, notation, axiom, sorry.
-/
import Derived.Test.YtnnchinpmnpfiaaDoorChecked
import GoSem.Claim
import GoSem.ClaimJoined
import GoSem.ClaimMapViews
import Derived.JoinedTies
import Derived.KernelRfl
namespace Go.Proofs.YtnnchinpmnpfiaaDoor
/- THE CELL 'sum', in the pinned program and in every row, IS THE sha256 OF THE DUMP (.gsa) THAT YtnnchinpmnpfiaaDoorProg.lean LOADS. Nothing in Lean hashes anything: it is a label: what it is worth is what the hold of that sum in a sandbox is worth. -/
noncomputable def Tryd.pinned : Pinned := { name := "ytnnchinpmnpfiaadoor", sum := "9363de5161c1ef5c4c12f48a3ff91c3347ee495ec69a506cebad2a96566a46b4", checked := Tryd.checked }
namespace Rows
def none {H : Type} : Left H := { results := [], args := [] }

/- WHAT THE LISTED PACKAGE-LEVEL VARIABLES READ AS WHEN THE CALL BEGINS. Each datum BY PROGRAM (the guide's laid-datum.mjs) off the statement by which the dump's own 'gosem.cut.vars' lays the variable. In a bare row this is a premise. The card (YtnnchinpmnpfiaaDoorCards.lean) ties it to the program's text. -/
def laid_semispace_mcode_plain {H : Type} : DataW H := .map [(.int .i64 1, .slice [.lit (.int .i64 1)] []), (.int .i64 3, .slice [.lit (.int .i64 2)] []), (.int .i64 4, .slice [.lit (.int .i64 1), .lit (.int .i64 1), .lit (.int .i64 1)] []), (.int .i64 5, .slice [.lit (.int .i64 1), .lit (.int .i64 1), .lit (.int .i64 1)] []), (.int .i64 6, .slice [.lit (.int .i64 1), .lit (.int .i64 1), .lit (.int .i64 1)] []), (.int .i64 7, .slice [.lit (.int .i64 1), .lit (.int .i64 1), .lit (.int .i64 1)] []), (.int .i64 8, .slice [.lit (.int .i64 1), .lit (.int .i64 1), .lit (.int .i64 1)] []), (.int .i64 9, .slice [.lit (.int .i64 1), .lit (.int .i64 2)] []), (.int .i64 10, .slice [.lit (.int .i64 1), .lit (.int .i64 2), .lit (.int .i64 2)] []), (.int .i64 11, .slice [] []), (.int .i64 12, .slice [.lit (.int .i64 1)] []), (.int .i64 13, .slice [.lit (.int .i64 2)] []), (.int .i64 14, .slice [.lit (.int .i64 2), .lit (.int .i64 1)] []), (.int .i64 15, .slice [.lit (.int .i64 2), .lit (.int .i64 1)] []), (.int .i64 16, .slice [.lit (.int .i64 1), .lit (.int .i64 2)] []), (.int .i64 17, .slice [.lit (.int .i64 1), .lit (.int .i64 2), .lit (.int .i64 1)] []), (.int .i64 18, .slice [.lit (.int .i64 2), .lit (.int .i64 1), .lit (.int .i64 1)] []), (.int .i64 19, .slice [.lit (.int .i64 2), .lit (.int .i64 2), .lit (.int .i64 1)] []), (.int .i64 20, .slice [.lit (.int .i64 2), .lit (.int .i64 1), .lit (.int .i64 2)] []), (.int .i64 23, .slice [.lit (.int .i64 1)] []), (.int .i64 24, .slice [.lit (.int .i64 1)] [])]

/-- 'semispacelaw24.McodeChecks': WHATEVER THE INPUT: true; the input reads as it did. -/
def mcodeChecksSpec : ChangeSpec := { name := "mcodeChecks", fn := fun _ => fun
  | [d1, d2, d3, d4] => { results := [.lit (.bool true)], args := [d1, d2, d3, d4] }
  | _ => none }
def mcodeChecksRow : OpenClaim := { program := "ytnnchinpmnpfiaadoor", sum := "9363de5161c1ef5c4c12f48a3ff91c3347ee495ec69a506cebad2a96566a46b4", func := "semispace/semispacelaw24.McodeChecks", spec := "mcodeChecks", unfollowed := true, recurses := true, named := ["semispace/mcode.plain"], apart := false, laid := [("semispace/mcode.plain", laid_semispace_mcode_plain)] }
def McodeChecksSaid : Prop := mcodeChecksRow.holds Tryd.pinned (OpenSpec.ofChange mcodeChecksSpec)

/-- ITS FALSE NEIGHBOUR: 'it returns false'. Refute it at one input. -/
def mcodeChecksWrong : ChangeSpec := { name := "mcodeChecks", fn := fun _ => fun
  | [d1, d2, d3, d4] => { results := [.lit (.bool false)], args := [d1, d2, d3, d4] }
  | _ => none }
def McodeChecksWrongFalsely : Prop := mcodeChecksRow.holds Tryd.pinned (OpenSpec.ofChange mcodeChecksWrong)

/-- 'semispacelaw24.McodeExact': WHATEVER THE INPUT: true; the input reads as it did. -/
def mcodeExactSpec : ChangeSpec := { name := "mcodeExact", fn := fun _ => fun
  | [d1, d2] => { results := [.lit (.bool true)], args := [d1, d2] }
  | _ => none }
def mcodeExactRow : OpenClaim := { program := "ytnnchinpmnpfiaadoor", sum := "9363de5161c1ef5c4c12f48a3ff91c3347ee495ec69a506cebad2a96566a46b4", func := "semispace/semispacelaw24.McodeExact", spec := "mcodeExact", unfollowed := true, recurses := true, named := ["semispace/mcode.plain"], apart := false, laid := [("semispace/mcode.plain", laid_semispace_mcode_plain)] }
def McodeExactSaid : Prop := mcodeExactRow.holds Tryd.pinned (OpenSpec.ofChange mcodeExactSpec)

/-- ITS FALSE NEIGHBOUR: 'it returns false'. Refute it at one input. -/
def mcodeExactWrong : ChangeSpec := { name := "mcodeExact", fn := fun _ => fun
  | [d1, d2] => { results := [.lit (.bool false)], args := [d1, d2] }
  | _ => none }
def McodeExactWrongFalsely : Prop := mcodeExactRow.holds Tryd.pinned (OpenSpec.ofChange mcodeExactWrong)

/-- 'semispacelaw24.McodeRefs': WHATEVER THE INPUT: true; the input reads as it did. -/
def mcodeRefsSpec : ChangeSpec := { name := "mcodeRefs", fn := fun _ => fun
  | [d1, d2] => { results := [.lit (.bool true)], args := [d1, d2] }
  | _ => none }
def mcodeRefsRow : OpenClaim := { program := "ytnnchinpmnpfiaadoor", sum := "9363de5161c1ef5c4c12f48a3ff91c3347ee495ec69a506cebad2a96566a46b4", func := "semispace/semispacelaw24.McodeRefs", spec := "mcodeRefs", unfollowed := true, recurses := true, named := ["semispace/mcode.plain"], apart := false, laid := [("semispace/mcode.plain", laid_semispace_mcode_plain)] }
def McodeRefsSaid : Prop := mcodeRefsRow.holds Tryd.pinned (OpenSpec.ofChange mcodeRefsSpec)

/-- ITS FALSE NEIGHBOUR: 'it returns false'. Refute it at one input. -/
def mcodeRefsWrong : ChangeSpec := { name := "mcodeRefs", fn := fun _ => fun
  | [d1, d2] => { results := [.lit (.bool false)], args := [d1, d2] }
  | _ => none }
def McodeRefsWrongFalsely : Prop := mcodeRefsRow.holds Tryd.pinned (OpenSpec.ofChange mcodeRefsWrong)

/- THE SECOND FORM. 'bulk': how many values and letters a reading holds, each counted each time it is reached (what is shared counts as often as it is met; a slice's spare places count too). A statement '..UptoSaid' is the law's where the arguments, and the package variables that the reading takes, are together of bulk at most 1048576: NARROWER than '..Said'. Prove '..Said' where nothing that the law and all that it calls make is longer than what came in: it says more and counts as full. Else prove '..UptoSaid'. A law counts once. -/
mutual
def uptoBulk {H : Type} : DataW H → Nat
  | .lit (.string bytes) => bytes.length + 1
  | .lit _ => 1
  | .nil => 1
  | .ptr d => uptoBulk d + 1
  | .slice elems spare => uptoBulkAll elems + uptoBulkAll spare + 1
  | .agg parts => uptoBulkAll parts + 1
  | .iface _ d => uptoBulk d + 1
  | .map entries => uptoBulkEntries entries + 1
  | .held _ => 1
def uptoBulkAll {H : Type} : List (DataW H) → Nat
  | [] => 0
  | d :: r => uptoBulk d + uptoBulkAll r
def uptoBulkEntries {H : Type} : List (Lit × DataW H) → Nat
  | [] => 0
  | x :: r => uptoBulkEntry x + uptoBulkEntries r
def uptoBulkEntry {H : Type} : Lit × DataW H → Nat
  | (.string bytes, d) => bytes.length + uptoBulk d + 1
  | (_, d) => uptoBulk d + 1
 end
def uptoSmall : (H : Type) → List (DataW H) → Bool := fun _ ds => decide (uptoBulkAll ds ≤ 1048576)
def OpenSpec.upto (s : _root_.Go.ChangeSpec) : _root_.Go.OpenSpec := { _root_.Go.OpenSpec.ofChange s with cond := some uptoSmall }

/-- 'semispacelaw24.McodeChecks', WHERE WHAT IT READS IS OF BULK AT MOST 1048576: true; the input reads as it did. -/
def mcodeChecksUptoRow : OpenClaim := { program := "ytnnchinpmnpfiaadoor", sum := "9363de5161c1ef5c4c12f48a3ff91c3347ee495ec69a506cebad2a96566a46b4", func := "semispace/semispacelaw24.McodeChecks", spec := "mcodeChecks", unfollowed := true, recurses := true, named := ["semispace/mcode.plain"], apart := false, laid := [("semispace/mcode.plain", laid_semispace_mcode_plain)], narrowed := true }
def McodeChecksUptoSaid : Prop := mcodeChecksUptoRow.holds Tryd.pinned (OpenSpec.upto mcodeChecksSpec)

/-- 'semispacelaw24.McodeExact', WHERE WHAT IT READS IS OF BULK AT MOST 1048576: true; the input reads as it did. -/
def mcodeExactUptoRow : OpenClaim := { program := "ytnnchinpmnpfiaadoor", sum := "9363de5161c1ef5c4c12f48a3ff91c3347ee495ec69a506cebad2a96566a46b4", func := "semispace/semispacelaw24.McodeExact", spec := "mcodeExact", unfollowed := true, recurses := true, named := ["semispace/mcode.plain"], apart := false, laid := [("semispace/mcode.plain", laid_semispace_mcode_plain)], narrowed := true }
def McodeExactUptoSaid : Prop := mcodeExactUptoRow.holds Tryd.pinned (OpenSpec.upto mcodeExactSpec)

/-- 'semispacelaw24.McodeRefs', WHERE WHAT IT READS IS OF BULK AT MOST 1048576: true; the input reads as it did. -/
def mcodeRefsUptoRow : OpenClaim := { program := "ytnnchinpmnpfiaadoor", sum := "9363de5161c1ef5c4c12f48a3ff91c3347ee495ec69a506cebad2a96566a46b4", func := "semispace/semispacelaw24.McodeRefs", spec := "mcodeRefs", unfollowed := true, recurses := true, named := ["semispace/mcode.plain"], apart := false, laid := [("semispace/mcode.plain", laid_semispace_mcode_plain)], narrowed := true }
def McodeRefsUptoSaid : Prop := mcodeRefsUptoRow.holds Tryd.pinned (OpenSpec.upto mcodeRefsSpec)

end Rows
end Go.Proofs.YtnnchinpmnpfiaaDoor

/-
  DERIVED. GIVEN WITH THE SEED: THE CARDS: each row of YtnnchinpmnpfiaaDoorRows.lean that lists a variable, with what it lists TIED to the program's text (the seventh form; the later family's looks); each row that meets fmt, with fmt's text TOLD by the authors' own Lean function (tested against real Go, not proved from fmt's source: count such statements apart). THE CARD IS WHAT COUNTS. Prove the row's statement (the work); the ties are given (YtnnchinpmnpfiaaDoorTie.lean); close each card by the builder's one call (the guide's Derived/Test/ToyasCard.lean, 'card_holds'). Laid BY PROGRAM, IN A SANDBOX (cutbox-door.mjs). By AI agents, Wed Nov 11 2026. No macro, syntax, notation, axiom, sorry.
-/
import Derived.Test.YtnnchinpmnpfiaaDoorRows
import GoSem.ClaimSeven
namespace Go.Proofs.YtnnchinpmnpfiaaDoor
namespace Rows

/-- THE TIED CARD OF 'semispacelaw24.McodeChecks'. -/
def mcodeChecksCard : Claim7 := { stood := { row := mcodeChecksRow, standIns := [], harness := (true, "770e7b09828e2123d185039c03e3c1702c7c0e9ca6eb5b7c54e3756fa88e6a5d"), looks := false }, kinds := [], alts := [], laidByText := true, laidKinds := [.mappedDeep], laidTests := true, laidLooks := .later }
def McodeChecksCardSaid : Prop := Claim7.holds Tryd.pinned (.plain (OpenSpec.ofChange mcodeChecksSpec)) mcodeChecksCard

/-- THE TIED CARD OF 'semispacelaw24.McodeExact'. -/
def mcodeExactCard : Claim7 := { stood := { row := mcodeExactRow, standIns := [], harness := (true, "770e7b09828e2123d185039c03e3c1702c7c0e9ca6eb5b7c54e3756fa88e6a5d"), looks := false }, kinds := [], alts := [], laidByText := true, laidKinds := [.mappedDeep], laidTests := true, laidLooks := .later }
def McodeExactCardSaid : Prop := Claim7.holds Tryd.pinned (.plain (OpenSpec.ofChange mcodeExactSpec)) mcodeExactCard

/-- THE TIED CARD OF 'semispacelaw24.McodeRefs'. -/
def mcodeRefsCard : Claim7 := { stood := { row := mcodeRefsRow, standIns := [], harness := (true, "770e7b09828e2123d185039c03e3c1702c7c0e9ca6eb5b7c54e3756fa88e6a5d"), looks := false }, kinds := [], alts := [], laidByText := true, laidKinds := [.mappedDeep], laidTests := true, laidLooks := .later }
def McodeRefsCardSaid : Prop := Claim7.holds Tryd.pinned (.plain (OpenSpec.ofChange mcodeRefsSpec)) mcodeRefsCard

/-- THE SECOND FORM's CARD OF 'semispacelaw24.McodeChecks'. -/
def mcodeChecksUptoCard : Claim7 := { stood := { row := mcodeChecksUptoRow, standIns := [], harness := (true, "770e7b09828e2123d185039c03e3c1702c7c0e9ca6eb5b7c54e3756fa88e6a5d"), looks := false }, kinds := [], alts := [], laidByText := true, laidKinds := [.mappedDeep], laidTests := true, laidLooks := .later }
def McodeChecksUptoCardSaid : Prop := Claim7.holds Tryd.pinned (.plain (OpenSpec.upto mcodeChecksSpec)) mcodeChecksUptoCard

/-- THE SECOND FORM's CARD OF 'semispacelaw24.McodeExact'. -/
def mcodeExactUptoCard : Claim7 := { stood := { row := mcodeExactUptoRow, standIns := [], harness := (true, "770e7b09828e2123d185039c03e3c1702c7c0e9ca6eb5b7c54e3756fa88e6a5d"), looks := false }, kinds := [], alts := [], laidByText := true, laidKinds := [.mappedDeep], laidTests := true, laidLooks := .later }
def McodeExactUptoCardSaid : Prop := Claim7.holds Tryd.pinned (.plain (OpenSpec.upto mcodeExactSpec)) mcodeExactUptoCard

/-- THE SECOND FORM's CARD OF 'semispacelaw24.McodeRefs'. -/
def mcodeRefsUptoCard : Claim7 := { stood := { row := mcodeRefsUptoRow, standIns := [], harness := (true, "770e7b09828e2123d185039c03e3c1702c7c0e9ca6eb5b7c54e3756fa88e6a5d"), looks := false }, kinds := [], alts := [], laidByText := true, laidKinds := [.mappedDeep], laidTests := true, laidLooks := .later }
def McodeRefsUptoCardSaid : Prop := Claim7.holds Tryd.pinned (.plain (OpenSpec.upto mcodeRefsSpec)) mcodeRefsUptoCard
end Rows
end Go.Proofs.YtnnchinpmnpfiaaDoor

/-
  DERIVED. GIVEN WITH THE SEED: THE PROGRAM's TIES (one call each: nine closed facts by the kernel) AND EACH ROW's TIE, after the 31st guide's Derived/Test/Toyas{Tie, Card}.lean. No idea stands in it: it is a product of the set-up. Laid BY PROGRAM, IN A SANDBOX (cutbox-door.mjs). By AI agents, Wed Nov 11 2026. No macro, syntax, notation, axiom, sorry.
-/
import Derived.Test.YtnnchinpmnpfiaaDoorRows
import Derived.LaidByTextLater
import Derived.SevenTiedAt
import Derived.LaidSub
import Derived.LaidOnce
namespace Go.Proofs.YtnnchinpmnpfiaaDoor
open Go
set_option maxRecDepth 100000
theorem seatTie1 : Tryd.prog.laidByTextLater [("semispace/mcode.plain", Rows.laid_semispace_mcode_plain)] [.mappedDeep] true :=
  Program.laidByTextLater_by_one 140 8 4 (by kernel_rfl) (by kernel_rfl) (by kernel_rfl) (by kernel_rfl) (by kernel_rfl) (by kernel_rfl) (fun _ _ => by kernel_rfl)
theorem noOwnUnsafe : Tryd.pinned.checked.prog.headLifts.contains "ownunsafe" = false := by kernel_rfl
theorem tie : Tryd.prog.laidByTextLater [("semispace/mcode.plain", Rows.laid_semispace_mcode_plain)] [.mappedDeep] true :=
  Program.laidByTextLater.sub seatTie1 ["semispace/mcode.plain"] (by kernel_rfl) (by kernel_rfl)
theorem mcodeChecks_row_tie : Rows.mcodeChecksRow.laidByTextAt .later Tryd.pinned [.mappedDeep] true :=
  OpenClaim.laidByTextAt_later rfl rfl tie noOwnUnsafe
theorem mcodeExact_row_tie : Rows.mcodeExactRow.laidByTextAt .later Tryd.pinned [.mappedDeep] true :=
  OpenClaim.laidByTextAt_later rfl rfl tie noOwnUnsafe
theorem mcodeRefs_row_tie : Rows.mcodeRefsRow.laidByTextAt .later Tryd.pinned [.mappedDeep] true :=
  OpenClaim.laidByTextAt_later rfl rfl tie noOwnUnsafe
theorem mcodeChecksUpto_row_tie : Rows.mcodeChecksUptoRow.laidByTextAt .later Tryd.pinned [.mappedDeep] true :=
  OpenClaim.laidByTextAt_later rfl rfl tie noOwnUnsafe
theorem mcodeExactUpto_row_tie : Rows.mcodeExactUptoRow.laidByTextAt .later Tryd.pinned [.mappedDeep] true :=
  OpenClaim.laidByTextAt_later rfl rfl tie noOwnUnsafe
theorem mcodeRefsUpto_row_tie : Rows.mcodeRefsUptoRow.laidByTextAt .later Tryd.pinned [.mappedDeep] true :=
  OpenClaim.laidByTextAt_later rfl rfl tie noOwnUnsafe
end Go.Proofs.YtnnchinpmnpfiaaDoor

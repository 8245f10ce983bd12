/- A region that draws its order and holds calls that make memory, whose results are known: one walk of the text's order serves every order. The class of worlds: those that have kept all blocks of a world. -/
import Derived.Test.YtnnchinpmnpfiaaDoorMem
import Derived.Deep.QuietTactic
import Derived.BigQuiet
namespace Go.Proofs.YtnnchinpmnpfiaaDoor
open Go.RowKit

/-- a world that has kept every block of w0 -/
structure Lag (w0 : World) where
  w : World
  h : Below w0.heap.size w0 w
instance (w0 : World) : Nonempty (Lag w0) := ⟨⟨w0, Below.refl _ _⟩⟩
section
variable {P : Program} {w0 : World}
theorem Lag.cell {a : Addr} {v : Value} (h : w0.cell? a = some v) : ∀ u : Lag w0, u.w.cell? a = some v := fun u => keep_cell u.h h
theorem wp_region_lag {id : Nat} {Q : Exit → Act → World → Prop} {a : Act} {l : List Oper} (hm : P.follows .mixedOrders = true) (hB : Region.lexB .any l.toArray = true)
    (h : wpQuiet P l.toArray (fun w' => ∃ u : Lag w0, w' = u.w) (fun a' => ∀ w', (∃ u : Lag w0, w' = u.w) → Q .normal a' w') l a) : (Code.region id l.toArray true).wp P Q a w0 :=
  wp_region_quiet (C := fun w' => ∃ u : Lag w0, w' = u.w) hm hB ⟨⟨w0.drew, (Below.refl _ _).drew⟩, rfl⟩ (by simpa using h)
theorem Calls.lag {f : FuncId} {args : Array Value} {u : Lag w0} {v : Value} (h : Calls P f args u.w fun e w'' => e = .returned v ∧ Below u.w.heap.size u.w w'') :
    Calls P f args u.w fun e w'' => e = .returned v ∧ ∃ u' : Lag w0, w'' = u'.w :=
  h.mono fun _ w'' ⟨he, hb⟩ => ⟨he, ⟨w'', keep_below hb u.h⟩, rfl⟩
theorem Calls.lag_same {f : FuncId} {args : Array Value} {u : Lag w0} {v : Value} (h : Calls P f args u.w fun e w'' => e = .returned v ∧ u.w = w'') :
    Calls P f args u.w fun e w'' => e = .returned v ∧ ∃ u' : Lag w0, w'' = u'.w :=
  h.mono fun _ _ ⟨he, hb⟩ => ⟨he, u, hb.symm⟩
end
end Go.Proofs.YtnnchinpmnpfiaaDoor

/- Rows of the call's own lie apart where their elements' types differ. No program in sight. -/
import Derived.Test.YtmcdhpbkhchpeaaApp
namespace Go.Proofs.Ytmcdhpbkhchpeaa
open Go.RowKit
theorem own_apart {w : World} {b1 b2 s1 s2 n1 n2 : Nat} {e1 e2 : TypeId} {v1 v2 : Value} {xs1 xs2 : List Value} (h1 : w.ownsRow b1 e1 s1 v1 n1 xs1) (h2 : w.ownsRow b2 e2 s2 v2 n2 xs2) (hne : e1 ≠ e2) : v1.ownBlock = none ∨ v1.ownBlock ≠ v2.ownBlock := by
  rcases h1.2 with ⟨rfl, -⟩ | ⟨g1, cap1, cur1, rfl, -, hg1, -⟩
  · exact Or.inl rfl
  · rcases h2.2 with ⟨rfl, -⟩ | ⟨g2, cap2, cur2, rfl, -, hg2, -⟩
    · right; simp [Value.ownBlock]
    · right
      simp only [Value.ownBlock, ne_eq, Option.some.injEq]
      intro e
      rw [e, hg2] at hg1
      simp only [Option.some.injEq, Obj.cells.injEq] at hg1
      exact hne hg1.2.1.symm
/-- a row that another row's append leaves -/
theorem own_other {w w' : World} {b1 b2 s1 s2 n1 n2 : Nat} {e1 e2 : TypeId} {v1 v2 : Value} {xs1 xs2 : List Value} (h1 : w.ownsRow b1 e1 s1 v1 n1 xs1) (h2 : w.ownsRow b2 e2 s2 v2 n2 xs2) (hne : e1 ≠ e2) (hg : w.grownBy w' v2.ownBlock) : w'.ownsRow b1 e1 s1 v1 n1 xs1 :=
  h1.kept hg (own_apart h1 h2 hne)
/-- a store into a row -/
theorem own_store {w : World} {b1 b2 s1 s2 n1 n2 g c : Nat} {e1 e2 : TypeId} {v1 : Value} {xs1 xs2 : List Value} (h1 : w.ownsRow b1 e1 s1 v1 n1 xs1) (h2 : w.ownsRow b2 e2 s2 (.slice (some ⟨g, 0, none⟩) n2 c) n2 xs2) (hne : e1 ≠ e2) (k : Nat) (u : Value) : (w.setCell ⟨g, k, none⟩ u).ownsRow b1 e1 s1 v1 n1 xs1 :=
  own_other h1 h2 hne (h2.stored k u).2
/-- blocks outside of the row that was written -/
theorem blk_other {w w' : World} {b n s g : Nat} {e t : TypeId} {v : Value} {xs : List Value} {cs : Array Value} (hB : w.heap[g]? = some (.cells cs t (0, 0))) (h : w.ownsRow b e s v n xs) (hlt : g < b) (hg : w.grownBy w' v.ownBlock) : w'.heap[g]? = some (.cells cs t (0, 0)) :=
  (hg.block g (Array.getElem?_eq_some_iff.1 hB).1 (own_ne h (Or.inl hlt))).trans hB
theorem below_own {w w' : World} {base b n s : Nat} {e : TypeId} {v : Value} {xs : List Value} (h : w.ownsRow b e s v n xs) (hg : w.grownBy w' v.ownBlock) (hb : base ≤ b) (hbw : base ≤ w.heap.size) : Below base w w' :=
  (Below.refl base w).grown hg hbw (fun _ hk => Nat.le_trans hb (h.lt _ hk).1)
end Go.Proofs.Ytmcdhpbkhchpeaa

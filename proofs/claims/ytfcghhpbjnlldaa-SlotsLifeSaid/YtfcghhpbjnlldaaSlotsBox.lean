/- A variable that holds a table: its block and what its slice reads as. -/
import Derived.Test.YtfcghhpbjnlldaaSlotsAwake
namespace Go.Proofs.Ytfcghhpbjnlldaa
open Go.RowKit Words

/-- the variable of block g holds the table l -/
structure Box (w : World) (g : Nat) (A : Option Addr) (n c : Nat) (l : List Ent) : Prop where
  blk : Blk w g 24 #[.slice A n c]
  reads : Reads w w.heap.size 3 A n c (l.flatMap entCells)
section
variable {w w' : World} {g g' n n' c c' : Nat} {A A' : Option Addr} {l l' : List Ent}
theorem Box.mkNew (h : Reads w w.heap.size 3 A n c (l.flatMap entCells)) : Box (w.alloc (.cells #[.slice A n c] 24)) w.heap.size A n c l :=
  ⟨Blk.new w _ _, h.belowU (tab_alloc w A n c)⟩
theorem Box.below (h : Box w g A n c l) (hb : Below w.heap.size w w') : Box w' g A n c l := ⟨h.blk.below hb, h.reads.belowU hb⟩
theorem Box.alloc (h : Box w g A n c l) (o : Obj) : Box (w.alloc o) g A n c l := h.below (keep_alloc (Below.refl _ _) o)
theorem Box.cell (h : Box w g A n c l) : w.cell? ⟨g, 0, none⟩ = some (.slice A n c) := h.blk.cell 0 _ rfl
theorem Box.free (h : Box w g A n c l) : w.frozen? ⟨g, 0, none⟩ = false := h.blk.free 0
theorem Box.far (h : Box w g A n c l) (h' : Box w g' A' n' c' l') (hne : g ≠ g') (u : Value) : Box (w.setCell ⟨g', 0, none⟩ u) g A n c l :=
  ⟨h.blk.far hne u, (h.reads.apart (by omega) h'.blk (ent_noslice _ _ _ _) rfl u).more (by simp)⟩
theorem Box.put (h : Box w g A n c l) (hr : Reads w w.heap.size 3 A' n' c' (l'.flatMap entCells)) : Box (w.setCell ⟨g, 0, none⟩ (.slice A' n' c')) g A' n' c' l' :=
  ⟨h.blk.set 0 _, (hr.apart (by omega) h.blk (ent_noslice _ _ _ _) rfl _).more (by simp)⟩
theorem word_noslice (l : List (BitVec 64)) (A : Option Addr) (n c : Nat) : ∀ u ∈ l.flatMap wordCells, u ∉ (#[Value.slice A n c] : Array Value).toList := by
  intro u hu hs
  rw [List.mem_flatMap] at hu
  obtain ⟨x, _, hx⟩ := hu
  simp only [wordCells, List.mem_singleton] at hx hs
  subst hs
  cases hx
theorem Reads.apartW {m cr : Nat} {Ar : Option Addr} {rs : List (BitVec 64)} (hr : Reads w w.heap.size 1 Ar m cr (rs.flatMap wordCells)) (h : Box w g A n c l) (u : Value) :
    Reads (w.setCell ⟨g, 0, none⟩ u) (w.setCell ⟨g, 0, none⟩ u).heap.size 1 Ar m cr (rs.flatMap wordCells) :=
  (hr.apart (by omega) h.blk (word_noslice _ _ _ _) rfl u).more (by simp)
end
end Go.Proofs.Ytfcghhpbjnlldaa

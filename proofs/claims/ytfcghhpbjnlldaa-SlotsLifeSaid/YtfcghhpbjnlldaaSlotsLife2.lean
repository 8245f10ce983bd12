/- SlotsLife: the rows together. -/
import Derived.Test.YtfcghhpbjnlldaaSlotsLife1
import Derived.Test.YtfcghhpbjnlldaaSlotsAwake
import Derived.Test.YtfcghhpbjnlldaaSlots7
import Derived.Test.YtfcghhpbjnlldaaLag
import Derived.Deep.RegionHeld3
import Derived.Deep.RegionLaw
import Derived.Deep.CutBlock
namespace Go.Proofs.Ytfcghhpbjnlldaa
open Go.ChangeShapes Go.WideShapes Go.RowKit Words

theorem reads_blk {u : World} {g : Nat} {e : TypeId} {cs : Array Value} {s m : Nat} {xs : List Value} (h : Blk u g e cs) (hx : cs.toList = xs) (hl : cs.size = m * s) (hm : m ≤ maxLen) : Reads u u.heap.size s (some ⟨g, 0, none⟩) m m xs := by
  subst hx
  exact ⟨by simpa using hl, Nat.le_refl _, hm, (fun h => by cases h), fun _ => ⟨_, _, rfl, h.lt, fun j v hv => by rw [Nat.zero_add]; exact h.cell j v (by simpa using hv)⟩⟩
theorem blk_ne {w w' : World} {g : Nat} {t : TypeId} {cs : Array Value} {row : Option Nat} (h : Blk w g t cs) (hg : w.grownBy w' row) (hne : some g ≠ row) : Blk w' g t cs := (hg.block g h.lt hne).trans h
theorem tmod_range (a : Int) (b : Int) (hb : 0 < b) : -b < a.tmod b ∧ a.tmod b < b := ⟨Int.lt_tmod_of_pos a hb, Int.tmod_lt_of_pos a hb⟩
theorem tmod_wrap {a b : Int} (hb : 0 < b) : ∃ k : Nat, (a.tmod b + b).tmod b = k ∧ (k : Int) < b := by
  obtain ⟨h1, h2⟩ := tmod_range a b hb
  have h3 : 0 ≤ (a.tmod b + b).tmod b := Int.tmod_nonneg _ (by omega)
  have h4 := Int.tmod_lt_of_pos (a.tmod b + b) hb
  exact ⟨((a.tmod b + b).tmod b).toNat, by omega, by omega⟩

theorem keep_allocB {B : Nat} {w0 w : World} (h : Below B w0 w) (hB : B ≤ w0.heap.size) (o : Obj) : Below B w0 (w.alloc o) := h.alloc (Nat.le_trans hB h.size) o
/-- four rows of the call's own -/
structure Rw (w : World) (B : Nat) (vT : Value) (nT : Nat) (xT : List Value) (v4 : Value) (n4 : Nat) (x4 : List Value) (v5 : Value) (n5 : Nat) (x5 : List Value) (v6 : Value) (n6 : Nat) (x6 : List Value) : Prop where
  tab : w.ownsRow B 30 3 vT nT xT
  r4 : w.ownsRow B 42 2 v4 n4 x4
  r5 : w.ownsRow B 28 1 v5 n5 x5
  r6 : w.ownsRow B 4 1 v6 n6 x6
section
variable {w w' : World} {B nT n4 n5 n6 n' : Nat} {vT v4 v5 v6 v' : Value} {xT x4 x5 x6 x' : List Value}
theorem Rw.alloc (h : Rw w B vT nT xT v4 n4 x4 v5 n5 x5 v6 n6 x6) (o : Obj) : Rw (w.alloc o) B vT nT xT v4 n4 x4 v5 n5 x5 v6 n6 x6 := ⟨h.tab.alloc o, h.r4.alloc o, h.r5.alloc o, h.r6.alloc o⟩
theorem Rw.drew (h : Rw w B vT nT xT v4 n4 x4 v5 n5 x5 v6 n6 x6) : Rw w.drew B vT nT xT v4 n4 x4 v5 n5 x5 v6 n6 x6 := ⟨h.tab.drew, h.r4.drew, h.r5.drew, h.r6.drew⟩
theorem Rw.app4 (h : Rw w B vT nT xT v4 n4 x4 v5 n5 x5 v6 n6 x6) (hg : w.grownBy w' v4.ownBlock) (ho : w'.ownsRow B 42 2 v' n' x') : Rw w' B vT nT xT v' n' x' v5 n5 x5 v6 n6 x6 :=
  ⟨own_other h.tab h.r4 (by decide) hg, ho, own_other h.r5 h.r4 (by decide) hg, own_other h.r6 h.r4 (by decide) hg⟩
theorem Rw.app5 (h : Rw w B vT nT xT v4 n4 x4 v5 n5 x5 v6 n6 x6) (hg : w.grownBy w' v5.ownBlock) (ho : w'.ownsRow B 28 1 v' n' x') : Rw w' B vT nT xT v4 n4 x4 v' n' x' v6 n6 x6 :=
  ⟨own_other h.tab h.r5 (by decide) hg, own_other h.r4 h.r5 (by decide) hg, ho, own_other h.r6 h.r5 (by decide) hg⟩
theorem Rw.app6 (h : Rw w B vT nT xT v4 n4 x4 v5 n5 x5 v6 n6 x6) (hg : w.grownBy w' v6.ownBlock) (ho : w'.ownsRow B 4 1 v' n' x') : Rw w' B vT nT xT v4 n4 x4 v5 n5 x5 v' n' x' :=
  ⟨own_other h.tab h.r6 (by decide) hg, own_other h.r4 h.r6 (by decide) hg, own_other h.r5 h.r6 (by decide) hg, ho⟩
end
section
variable {W w w' : World} {l : List Ent} {is : List Iss} {A A4 A5 A6 A4' A5' A6' : Option Addr} {c c4 c5 c6 c4' c5' c6' : Nat}
theorem St.rw (h : St W w l is A c A4 c4 A5 c5 A6 c6) : Rw w (W.heap.size + 1) (.slice A l.length c) l.length (l.flatMap entCells) (.slice A4 is.length c4) is.length (is.flatMap issCells) (.slice A5 is.length c5) is.length (is.flatMap refCells) (.slice A6 is.length c6) is.length (is.flatMap goneCells) :=
  ⟨h.tab, h.iss, h.ref, h.gone⟩
theorem St.grow (h : St W w l is A c A4 c4 A5 c5 A6 c6) (hb : Below (W.heap.size + 1) w w') (i : Iss)
    (R : Rw w' (W.heap.size + 1) (.slice A l.length c) l.length (l.flatMap entCells) (.slice A4' (is.length + 1) c4') (is.length + 1) (is.flatMap issCells ++ issCells i) (.slice A5' (is.length + 1) c5') (is.length + 1) (is.flatMap refCells ++ refCells i) (.slice A6' (is.length + 1) c6') (is.length + 1) (is.flatMap goneCells ++ goneCells i)) :
    St W w' l (is ++ [i]) A c A4' c4' A5' c5' A6' c6' := by
  refine ⟨h.box.belowB hb (by omega), R.tab, ?_, ?_, ?_, h.bel.trans (hb.mono (by omega)), by have := hb.size; have := h.sz; omega⟩
  · have := R.r4; simpa using this
  · have := R.r5; simpa using this
  · have := R.r6; simpa using this
end
end Go.Proofs.Ytfcghhpbjnlldaa

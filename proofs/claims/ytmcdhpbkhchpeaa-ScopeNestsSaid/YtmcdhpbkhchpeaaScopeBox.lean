/- A variable that holds local handles. -/
import Derived.Test.YtmcdhpbkhchpeaaScope10
namespace Go.Proofs.Ytmcdhpbkhchpeaa
open Go.ChangeShapes Go.WideShapes Go.RowKit Words

theorem tmod_range (a : Int) (b : Int) (hb : 0 < b) : -b < a.tmod b ∧ a.tmod b < b := ⟨Int.lt_tmod_of_pos a hb, Int.tmod_lt_of_pos a hb⟩
theorem keep_put3 {w0 w : World} {B g : Nat} (h : Below B w0 w) (hg : B ≤ g) (a b c : Value) : Below B w0 (((w.setCell ⟨g, 0, none⟩ a).setCell ⟨g, 1, none⟩ b).setCell ⟨g, 2, none⟩ c) :=
  ((h.setCell (p := ⟨g, 0, none⟩) hg a).setCell (p := ⟨g, 1, none⟩) hg b).setCell (p := ⟨g, 2, none⟩) hg c
theorem LOwn.far3 {w : World} {base g : Nat} {As Ap Ai : Option Addr} {ns cs np cp ni ci : Nat} {S : List Sl} {P : List Sc} {I : List Int} (h : LOwn w base As ns cs Ap np cp Ai ni ci S P I) (hg : g < base) (a b c : Value) : LOwn (((w.setCell ⟨g, 0, none⟩ a).setCell ⟨g, 1, none⟩ b).setCell ⟨g, 2, none⟩ c) base As ns cs Ap np cp Ai ni ci S P I :=
  ((h.far (a := ⟨g, 0, none⟩) hg a).far (a := ⟨g, 1, none⟩) hg b).far (a := ⟨g, 2, none⟩) hg c
/-- a variable that holds local handles of the call's own -/
structure Loc (w : World) (g : Nat) (x : Lc) (As : Option Addr) (cs : Nat) (Ap : Option Addr) (cp : Nat) (Ai : Option Addr) (ci : Nat) : Prop where
  box : Blk w g 26 #[.slice As x.s.length cs, .slice Ap x.p.length cp, .slice Ai x.i.length ci]
  rd : LRd w As x.s.length cs Ap x.p.length cp Ai x.i.length ci x.s x.p x.i
theorem Loc.mkNew {w : World} {x : Lc} {As : Option Addr} {cs : Nat} {Ap : Option Addr} {cp : Nat} {Ai : Option Addr} {ci : Nat} (h : LRd w As x.s.length cs Ap x.p.length cp Ai x.i.length ci x.s x.p x.i) :
    Loc (w.alloc (.cells #[.slice As x.s.length cs, .slice Ap x.p.length cp, .slice Ai x.i.length ci] 26)) w.heap.size x As cs Ap cp Ai ci := ⟨Blk.new _ _ _, h.alloc _⟩
theorem Loc.belowU {w u : World} {g : Nat} {x : Lc} {As : Option Addr} {cs : Nat} {Ap : Option Addr} {cp : Nat} {Ai : Option Addr} {ci : Nat} (h : Loc w g x As cs Ap cp Ai ci) (hb : Below w.heap.size w u) : Loc u g x As cs Ap cp Ai ci := ⟨h.box.below hb, h.rd.belowU hb⟩
theorem Loc.alloc {w : World} {g : Nat} {x : Lc} {As : Option Addr} {cs : Nat} {Ap : Option Addr} {cp : Nat} {Ai : Option Addr} {ci : Nat} (h : Loc w g x As cs Ap cp Ai ci) (m : Obj) : Loc (w.alloc m) g x As cs Ap cp Ai ci := ⟨h.box.alloc _, h.rd.alloc _⟩
end Go.Proofs.Ytmcdhpbkhchpeaa

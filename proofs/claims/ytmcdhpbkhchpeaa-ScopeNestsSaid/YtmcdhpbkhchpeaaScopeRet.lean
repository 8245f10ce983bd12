/- Local handles that can be read come back, with an error code: the reference's results. -/
import Derived.Test.YtmcdhpbkhchpeaaScope6
import Derived.Test.YtmcdhpbkhchpeaaScope8
import Derived.Deep.RegionLaw
namespace Go.Proofs.Ytmcdhpbkhchpeaa
open Go.ChangeShapes Go.WideShapes Go.RowKit Words

/-- local handles that can be read and an error code come back -/
def RetLR (w : World) (r : Lc × Int) (e : Ending) (w' : World) : Prop :=
  ∃ As cs Ap cp Ai ci, e = .returned (.tuple #[locV As r.1.s.length cs Ap r.1.p.length cp Ai r.1.i.length ci, .int .i64 r.2]) ∧ LRd w' As r.1.s.length cs Ap r.1.p.length cp Ai r.1.i.length ci r.1.s r.1.p r.1.i ∧ Below w.heap.size w w'
theorem RetLR.fail {w w' : World} {er : Int} {a b c : Value} (hb : Below w.heap.size w w') : RetLR w (Lc.nil, er) (.returned (.tuple #[locV none 0 0 none 0 0 none 0 0, .int .i64 er])) (((w'.setCell ⟨w.heap.size + 1, 0, none⟩ a).setCell ⟨w.heap.size + 1, 1, none⟩ b).setCell ⟨w.heap.size + 1, 2, none⟩ c) :=
  ⟨none, 0, none, 0, none, 0, rfl, LRd.nil _, keep_set3 hb a b c⟩

theorem RetLR.mk' {w w' : World} {r : Lc × Int} {S : List Sl} {P : List Sc} {I : List Int} {er : Int} {A1 A2 A3 : Option Addr} {ns c1 np c2 ni c3 : Nat} (hr : r = (⟨S, P, I⟩, er)) (hO : LRd w' A1 ns c1 A2 np c2 A3 ni c3 S P I) (hB : Below w.heap.size w w') :
    RetLR w r (.returned (.tuple #[locV A1 ns c1 A2 np c2 A3 ni c3, .int .i64 er])) w' := by
  obtain ⟨hs, hp, hi⟩ := hO.lens
  subst hs hp hi
  rw [hr]
  exact ⟨A1, c1, A2, c2, A3, c3, rfl, hO, hB⟩
theorem reads_blk {u : World} {g : Nat} {e : TypeId} {cs : Array Value} {s m : Nat} {xs : List Value} (h : Blk u g e cs) (hx : cs.toList = xs) (hl : cs.size = m * s) (hm : m ≤ maxLen) : Reads u u.heap.size s (some ⟨g, 0, none⟩) m m xs := by
  subst hx
  exact ⟨by simpa using hl, Nat.le_refl _, hm, (fun h => by cases h), fun _ => ⟨_, _, rfl, h.lt, fun j v hv => by rw [Nat.zero_add]; exact h.cell j v (by simpa using hv)⟩⟩
theorem blk_ne {w w' : World} {g : Nat} {t : TypeId} {cs : Array Value} {row : Option Nat} (h : Blk w g t cs) (hg : w.grownBy w' row) (hne : some g ≠ row) : Blk w' g t cs := (hg.block g h.lt hne).trans h
theorem own_put3 {w : World} {base e s n g : Nat} {v : Value} {xs : List Value} (h : w.ownsRow base e s v n xs) (hg : g < base) (a b c : Value) : (((w.setCell ⟨g, 0, none⟩ a).setCell ⟨g, 1, none⟩ b).setCell ⟨g, 2, none⟩ c).ownsRow base e s v n xs :=
  ownsRow_setCell_below (ownsRow_setCell_below (ownsRow_setCell_below h (a := ⟨g, 0, none⟩) hg a) (a := ⟨g, 1, none⟩) hg b) (a := ⟨g, 2, none⟩) hg c
theorem own_lit0 (w : World) (e : TypeId) (s base g : Nat) (hb : base ≤ w.heap.size) (hg : w.heap.size = g) : (w.alloc (.cells #[] e)).ownsRow base e s (.slice (some ⟨g, 0, none⟩) 0 0) 0 [] := by
  subst hg
  exact World.ownsRow_lit w #[] 0 hb (by decide) (by simp)
end Go.Proofs.Ytmcdhpbkhchpeaa

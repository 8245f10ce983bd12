/- play: what its variables hold. -/
import Derived.Test.YtmcdhpbkhchpeaaScopeLaw3
import Derived.Test.YtmcdhpbkhchpeaaScopeVar
import Derived.Test.YtmcdhpbkhchpeaaScopeRet
import Derived.OneCell
namespace Go.Proofs.Ytmcdhpbkhchpeaa
open Go.ChangeShapes Go.WideShapes Go.RowKit Words

structure Deed where
  kind : Int
  size : Int
  which : Int
  ref : BitVec 64
def deedCells (x : Deed) : List Value := [.int .i64 x.kind, .int .i64 x.size, .int .i64 x.which, .int .u64 (U x.ref)]
theorem deedCells_len (x : Deed) : (deedCells x).length = 4 := rfl
def Deed.ok64 (x : Deed) : Prop := (-9223372036854775808 ≤ x.kind ∧ x.kind ≤ 9223372036854775807) ∧ (-9223372036854775808 ≤ x.size ∧ x.size ≤ 9223372036854775807) ∧ (-9223372036854775808 ≤ x.which ∧ x.which ≤ 9223372036854775807)
def issCells (i : Iss) : List Value := [.int .i64 i.at_, .int .i64 i.stamp]
def refCells (i : Iss) : List Value := [.int .u64 (U i.ref)]
theorem issCells_len (x : Iss) : (issCells x).length = 2 := rfl
theorem refCells_len (x : Iss) : (refCells x).length = 1 := rfl
theorem tyIss : SlTy Try.prog 48 51 2 16 := SlTy.mk' (z := .agg #[.int .i64 0, .int .i64 0]) Try.underlying48 (by kernel_rfl) rfl (by omega)
section
variable {H : Type} {enc : TypeId × Value → H} {w : World} {base b : Nat} {spare : Nat → Bool} {held : Bool}
theorem cells_deed {n : Nat} {cs : List Value} {y : DataW H × List MemPlace} (h : DataW.trod enc Try.prog w base spare held n 72 cs = some y) : ∃ x : Deed, cs = deedCells x ∧ x.ok64 := by
  obtain ⟨hl, hf⟩ := cells_struct Try.underlying72 (by kernel_rfl) (by kernel_rfl) h
  obtain ⟨v0, m0, z0, e0, t0⟩ := hf 0 _ rfl
  obtain ⟨v1, m1, z1, e1, t1⟩ := hf 1 _ rfl
  obtain ⟨v2, m2, z2, e2, t2⟩ := hf 2 _ rfl
  obtain ⟨v3, m3, z3, e3, t3⟩ := hf 3 _ rfl
  obtain ⟨a, ha, hra⟩ := cells_i64 Try.underlying3 t0
  obtain ⟨q, hq, hrq⟩ := cells_i64 Try.underlying3 t1
  obtain ⟨r, hr, hrr⟩ := cells_i64 Try.underlying3 t2
  obtain ⟨x, hx⟩ := cells_word Try.underlying32 t3
  simp only [List.cons.injEq, and_true] at ha hx hq hr
  subst ha hx hq hr
  exact ⟨⟨a, q, r, x⟩, list4 hl e0 e1 e2 e3, hra, hrq, hrr⟩
theorem open_deeds {v : Value} {d : DataW H} {ps : List MemPlace} (hv : Value.okWide Try.prog w .any b 47 v) (h : DataW.Trod enc Try.prog w base spare held 47 v d ps) :
    ∃ A n c, ∃ l : List Deed, v = .slice A n c ∧ Reads w w.heap.size 4 A n c (l.flatMap deedCells) ∧ ∀ x ∈ l, x.ok64 :=
  open_seq deedCells Deed.ok64 Try.underlying47 (by kernel_rfl) (by omega) (fun _ _ _ hy => cells_deed hy) deedCells_len hv h
end
/-- a store into a block of another type leaves a row -/
theorem own_blk {w : World} {base e s n g k : Nat} {t : TypeId} {v : Value} {xs : List Value} {cs : Array Value} (h : w.ownsRow base e s v n xs) (hb : Blk w g t cs) (hne : e ≠ t) (a : Value) : (w.setCell ⟨g, k, none⟩ a).ownsRow base e s v n xs := by
  refine ownsRow_setCell_other h ?_ a
  rcases h.2 with ⟨rfl, -⟩ | ⟨g', cap, cur, rfl, -, hg, -⟩
  · simp [Value.ownBlock]
  · intro he
    simp only [Value.ownBlock, Option.some.injEq] at he
    rw [he, show w.heap[g]? = _ from hb] at hg
    simp only [Option.some.injEq, Obj.cells.injEq] at hg
    exact hne hg.2.1.symm
theorem own_box3 {w : World} {base e s n g : Nat} {t : TypeId} {v : Value} {xs : List Value} {p q r : Value} (h : w.ownsRow base e s v n xs) (hb : Blk w g t #[p, q, r]) (hne : e ≠ t) (a b c : Value) :
    (((w.setCell ⟨g, 0, none⟩ a).setCell ⟨g, 1, none⟩ b).setCell ⟨g, 2, none⟩ c).ownsRow base e s v n xs :=
  own_blk (own_blk (own_blk h hb hne a) (hb.put0 a) hne b) ((hb.put0 a).put1 b) hne c
theorem LOwn.box3 {w : World} {base g : Nat} {As Ap Ai : Option Addr} {ns cs np cp ni ci : Nat} {S : List Sl} {P : List Sc} {I : List Int} {p q r : Value} (h : LOwn w base As ns cs Ap np cp Ai ni ci S P I) (hb : Blk w g 26 #[p, q, r]) (a b c : Value) :
    LOwn (((w.setCell ⟨g, 0, none⟩ a).setCell ⟨g, 1, none⟩ b).setCell ⟨g, 2, none⟩ c) base As ns cs Ap np cp Ai ni ci S P I :=
  ⟨own_box3 h.s hb (by decide) a b c, own_box3 h.p hb (by decide) a b c, own_box3 h.i hb (by decide) a b c⟩

/-- what play's variables hold: the result's box, the box of the local handles, and two rows -/
structure PSt (w u : World) (x : Lc) (is : List Iss) (As : Option Addr) (cs : Nat) (Ap : Option Addr) (cp : Nat) (Ai : Option Addr) (ci : Nat) (A4 : Option Addr) (c4 : Nat) (A5 : Option Addr) (c5 : Nat) : Prop where
  res : Blk u w.heap.size 26 #[.slice none 0 0, .slice none 0 0, .slice none 0 0]
  box : Blk u (w.heap.size + 1) 26 #[.slice As x.s.length cs, .slice Ap x.p.length cp, .slice Ai x.i.length ci]
  own : LOwn u (w.heap.size + 2) As x.s.length cs Ap x.p.length cp Ai x.i.length ci x.s x.p x.i
  iss : u.ownsRow (w.heap.size + 2) 51 2 (.slice A4 is.length c4) is.length (is.flatMap issCells)
  ref : u.ownsRow (w.heap.size + 2) 32 1 (.slice A5 is.length c5) is.length (is.flatMap refCells)
  bel : Below w.heap.size w u
  sz : w.heap.size + 2 ≤ u.heap.size
section
variable {w u u' : World} {x y : Lc} {is : List Iss} {As Ap Ai Bs Bp Bi A4 A5 A4' A5' : Option Addr} {cs cp ci ds dp di c4 c5 c4' c5' : Nat}
theorem PSt.belowU (h : PSt w u x is As cs Ap cp Ai ci A4 c4 A5 c5) (hb : Below u.heap.size u u') : PSt w u' x is As cs Ap cp Ai ci A4 c4 A5 c5 :=
  ⟨h.res.below hb, h.box.below hb, h.own.below hb, own_keep h.iss hb, own_keep h.ref hb, keep_below hb h.bel, by have := hb.size; have := h.sz; omega⟩
theorem PSt.put (h : PSt w u x is As cs Ap cp Ai ci A4 c4 A5 c5) (ho : LOwn u (w.heap.size + 2) Bs y.s.length ds Bp y.p.length dp Bi y.i.length di y.s y.p y.i) :
    PSt w (((u.setCell ⟨w.heap.size + 1, 0, none⟩ (.slice Bs y.s.length ds)).setCell ⟨w.heap.size + 1, 1, none⟩ (.slice Bp y.p.length dp)).setCell ⟨w.heap.size + 1, 2, none⟩ (.slice Bi y.i.length di)) y is Bs ds Bp dp Bi di A4 c4 A5 c5 :=
  ⟨h.res.far3 (by omega) _ _ _, h.box.put3 _ _ _, ho.far3 (by omega) _ _ _, own_put3 h.iss (by omega) _ _ _, own_put3 h.ref (by omega) _ _ _, keep_put3 h.bel (by omega) _ _ _, by have := h.sz; simp; omega⟩
theorem PSt.far3 {g : Nat} {p q r : Value} (h : PSt w u x is As cs Ap cp Ai ci A4 c4 A5 c5) (hb : Blk u g 26 #[p, q, r]) (hg : w.heap.size + 1 < g) (a b c : Value) :
    PSt w (((u.setCell ⟨g, 0, none⟩ a).setCell ⟨g, 1, none⟩ b).setCell ⟨g, 2, none⟩ c) x is As cs Ap cp Ai ci A4 c4 A5 c5 :=
  ⟨h.res.far3 (by omega) _ _ _, h.box.far3 (by omega) _ _ _, h.own.box3 hb _ _ _, own_box3 h.iss hb (by decide) _ _ _, own_box3 h.ref hb (by decide) _ _ _, keep_put3 h.bel (by omega) _ _ _, by have := h.sz; simp; omega⟩
/-- the rows grow -/
theorem PSt.grow (h : PSt w u x is As cs Ap cp Ai ci A4 c4 A5 c5) (hb : Below (w.heap.size + 2) u u') (i : Iss) (ho : LOwn u' (w.heap.size + 2) As x.s.length cs Ap x.p.length cp Ai x.i.length ci x.s x.p x.i)
    (h4 : u'.ownsRow (w.heap.size + 2) 51 2 (.slice A4' (is.length + 1) c4') (is.length + 1) (is.flatMap issCells ++ issCells i))
    (h5 : u'.ownsRow (w.heap.size + 2) 32 1 (.slice A5' (is.length + 1) c5') (is.length + 1) (is.flatMap refCells ++ refCells i)) :
    PSt w u' x (is ++ [i]) As cs Ap cp Ai ci A4' c4' A5' c5' := by
  refine ⟨h.res.belowB hb (by omega), h.box.belowB hb (by omega), ho, ?_, ?_, h.bel.trans (hb.mono (by omega)), by have := hb.size; have := h.sz; omega⟩
  · simpa using h4
  · simpa using h5
end
theorem LOwn.other {w w' : World} {b base s n : Nat} {e : TypeId} {v : Value} {xs : List Value} {As Ap Ai : Option Addr} {ns cs np cp ni ci : Nat} {S : List Sl} {P : List Sc} {I : List Int} (h : LOwn w base As ns cs Ap np cp Ai ni ci S P I) (h2 : w.ownsRow b e s v n xs) (hs : 62 ≠ e) (hp : 59 ≠ e) (hi : 3 ≠ e) (hg : w.grownBy w' v.ownBlock) :
    LOwn w' base As ns cs Ap np cp Ai ni ci S P I := ⟨own_other h.s h2 hs hg, own_other h.p h2 hp hg, own_other h.i h2 hi hg⟩
theorem Good.lens {x : Lc} {is : List Iss} (h : Good x is) : x.s.length ≤ 1000000 ∧ x.p.length ≤ 1000000 ∧ x.i.length ≤ 1000000 := by
  have h1 := h.v.len
  have h2 := h.v.il
  have h3 := h.v.pl
  omega
end Go.Proofs.Ytmcdhpbkhchpeaa

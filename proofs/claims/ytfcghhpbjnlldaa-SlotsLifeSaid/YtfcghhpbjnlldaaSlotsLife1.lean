/- SlotsLife: what the variables of the law hold. -/
import Derived.Test.YtfcghhpbjnlldaaSlotsBox
import Derived.Test.YtfcghhpbjnlldaaOwn
namespace Go.Proofs.Ytfcghhpbjnlldaa
open Go.ChangeShapes Go.WideShapes Go.RowKit Words

structure Deed where
  kind : Int
  which : Int
  ref : BitVec 64
def deedCells (x : Deed) : List Value := [.int .i64 x.kind, .int .i64 x.which, .int .u64 (U x.ref)]
theorem deedCells_len (x : Deed) : (deedCells x).length = 3 := rfl
def Deed.ok64 (x : Deed) : Prop := (-9223372036854775808 ≤ x.kind ∧ x.kind ≤ 9223372036854775807) ∧ (-9223372036854775808 ≤ x.which ∧ x.which ≤ 9223372036854775807)
def issCells (i : Iss) : List Value := [.int .i64 i.at_, .int .i64 i.gen]
def refCells (i : Iss) : List Value := [.int .u64 (U i.ref)]
def goneCells (i : Iss) : List Value := [.bool i.gone]
theorem issCells_len (x : Iss) : (issCells x).length = 2 := rfl
theorem refCells_len (x : Iss) : (refCells x).length = 1 := rfl
theorem goneCells_len (x : Iss) : (goneCells x).length = 1 := rfl
theorem tyIss : SlTy Try.prog 38 42 2 16 := SlTy.mk' (z := .agg #[.int .i64 0, .int .i64 0]) Try.underlying38 (by kernel_rfl) rfl (by omega)
theorem tyBools : SlTy Try.prog 39 4 1 1 := SlTy.mk' (z := .bool false) Try.underlying39 (by kernel_rfl) rfl (by omega)

section
variable {H : Type} {enc : TypeId × Value → H} {w : World} {base b : Nat} {spare : Nat → Bool} {held : Bool}
theorem cells_deed {n : Nat} {cs : List Value} {y : DataW H × List MemPlace} (h : DataW.trod enc Try.prog w base spare held n 41 cs = some y) : ∃ x : Deed, cs = deedCells x ∧ x.ok64 := by
  obtain ⟨hl, hf⟩ := cells_struct Try.underlying41 (by kernel_rfl) (by kernel_rfl) h
  obtain ⟨v0, m0, z0, e0, t0⟩ := hf 0 _ rfl
  obtain ⟨v1, m1, z1, e1, t1⟩ := hf 1 _ rfl
  obtain ⟨v2, m2, z2, e2, t2⟩ := hf 2 _ rfl
  obtain ⟨a, ha, hra⟩ := cells_i64 Try.underlying3 t0
  obtain ⟨q, hq, hrq⟩ := cells_i64 Try.underlying3 t1
  obtain ⟨x, hx⟩ := cells_word Try.underlying28 t2
  simp only [List.cons.injEq, and_true] at ha hx hq
  subst ha hx hq
  exact ⟨⟨a, q, x⟩, list3 hl e0 e1 e2, hra, hrq⟩
theorem open_deeds {v : Value} {d : DataW H} {ps : List MemPlace} (hv : Value.okWide Try.prog w .any b 37 v) (h : DataW.Trod enc Try.prog w base spare held 37 v d ps) :
    ∃ A n c, ∃ l : List Deed, v = .slice A n c ∧ Reads w w.heap.size 3 A n c (l.flatMap deedCells) ∧ ∀ x ∈ l, x.ok64 :=
  open_seq deedCells Deed.ok64 Try.underlying37 (by kernel_rfl) (by omega) (fun _ _ _ hy => cells_deed hy) deedCells_len hv h
end

/-- the law's variables: the table (a box) and the three rows -/
structure St (W w : World) (l : List Ent) (is : List Iss) (A : Option Addr) (c : Nat) (A4 : Option Addr) (c4 : Nat) (A5 : Option Addr) (c5 : Nat) (A6 : Option Addr) (c6 : Nat) : Prop where
  box : Blk w W.heap.size 24 #[.slice A l.length c]
  tab : w.ownsRow (W.heap.size + 1) 30 3 (.slice A l.length c) l.length (l.flatMap entCells)
  iss : w.ownsRow (W.heap.size + 1) 42 2 (.slice A4 is.length c4) is.length (is.flatMap issCells)
  ref : w.ownsRow (W.heap.size + 1) 28 1 (.slice A5 is.length c5) is.length (is.flatMap refCells)
  gone : w.ownsRow (W.heap.size + 1) 4 1 (.slice A6 is.length c6) is.length (is.flatMap goneCells)
  bel : Below W.heap.size W w
  sz : W.heap.size < w.heap.size
theorem reads_own' {w : World} {base n s c : Nat} {e : TypeId} {A : Option Addr} {xs : List Value} (h : w.ownsRow base e s (.slice A n c) n xs) : Reads w w.heap.size s A n c xs := by
  obtain ⟨A2, c2, e2, hr⟩ := Reads.own h
  injection e2 with x1 x2 x3
  subst x1 x3
  exact hr
section
variable {W w w' : World} {l l' : List Ent} {is is' : List Iss} {A A' A4 A5 A6 : Option Addr} {c c' c4 c5 c6 : Nat}
theorem St.belowU (h : St W w l is A c A4 c4 A5 c5 A6 c6) (hb : Below w.heap.size w w') : St W w' l is A c A4 c4 A5 c5 A6 c6 :=
  ⟨h.box.below hb, own_keep h.tab hb, own_keep h.iss hb, own_keep h.ref hb, own_keep h.gone hb, keep_below hb h.bel, by have := hb.size; have := h.sz; omega⟩
theorem St.drew (h : St W w l is A c A4 c4 A5 c5 A6 c6) : St W w.drew l is A c A4 c4 A5 c5 A6 c6 := h.belowU (Below.refl _ _).drew
theorem St.alloc (h : St W w l is A c A4 c4 A5 c5 A6 c6) (o : Obj) : St W (w.alloc o) l is A c A4 c4 A5 c5 A6 c6 := h.belowU (keep_alloc (Below.refl _ _) o)
theorem St.reads (h : St W w l is A c A4 c4 A5 c5 A6 c6) : Reads w w.heap.size 3 A l.length c (l.flatMap entCells) := reads_own' h.tab
theorem St.cell (h : St W w l is A c A4 c4 A5 c5 A6 c6) : w.cell? ⟨W.heap.size, 0, none⟩ = some (.slice A l.length c) := h.box.cell 0 _ rfl
theorem St.free (h : St W w l is A c A4 c4 A5 c5 A6 c6) : w.frozen? ⟨W.heap.size, 0, none⟩ = false := h.box.free 0
theorem St.put (h : St W w l is A c A4 c4 A5 c5 A6 c6) (ho : w.ownsRow (W.heap.size + 1) 30 3 (.slice A' l'.length c') l'.length (l'.flatMap entCells)) :
    St W (w.setCell ⟨W.heap.size, 0, none⟩ (.slice A' l'.length c')) l' is A' c' A4 c4 A5 c5 A6 c6 :=
  ⟨h.box.set 0 _, ownsRow_setCell_below ho (by show W.heap.size < _; omega) _, ownsRow_setCell_below h.iss (by show W.heap.size < _; omega) _, ownsRow_setCell_below h.ref (by show W.heap.size < _; omega) _, ownsRow_setCell_below h.gone (by show W.heap.size < _; omega) _,
    h.bel.setCell (by show W.heap.size ≤ W.heap.size; omega) _, by have := h.sz; simp; omega⟩
end
theorem flat_set1 {α : Type} (f : α → List Value) (hs : ∀ a, (f a).length = 1) (l : List α) (k : Nat) (u : Value) (a' : α) (hk : k < l.length) (ha : f a' = [u]) : (l.flatMap f).set k u = (l.set k a').flatMap f := by
  have h1 := hs (l[k])
  have := set_flat f 1 hs l k 0 u (l[k]) a' (List.getElem?_eq_getElem hk) (by omega) (by
    rw [ha]
    match f l[k], h1 with
    | [x], _ => rfl)
  rw [Nat.mul_one, Nat.add_zero] at this
  exact this
theorem flat_same {α : Type} (f : α → List Value) (l : List α) (k : Nat) (a a' : α) (hk : l[k]? = some a) (ha : f a' = f a) : (l.set k a').flatMap f = l.flatMap f := by
  have hlt := (List.getElem?_eq_some_iff.1 hk).1
  have hka := (List.getElem?_eq_some_iff.1 hk).2
  induction l generalizing k with
  | nil => simp at hlt
  | cons b r ih =>
    cases k with
    | zero => simp at hk; subst hk; rw [List.set_cons_zero, List.flatMap_cons, List.flatMap_cons, ha]
    | succ k =>
      simp at hk hlt hka
      rw [List.set_cons_succ, List.flatMap_cons, List.flatMap_cons, ih k hk hlt hka]
section
variable {W w : World} {l : List Ent} {is : List Iss} {A A4 A5 A6 : Option Addr} {c c4 c5 c6 : Nat}
/-- 'gone[k] = b' -/
theorem St.setGone {g : Nat} (h : St W w l is A c A4 c4 A5 c5 (some ⟨g, 0, none⟩) c6) {k : Nat} {i : Iss} (hk : is[k]? = some i) (b : Bool) :
    St W (w.setCell ⟨g, k, none⟩ (.bool b)) l (is.set k ⟨i.at_, i.gen, i.ref, b⟩) A c A4 c4 A5 c5 (some ⟨g, 0, none⟩) c6 := by
  have hlt := (List.getElem?_eq_some_iff.1 hk).1
  have hg := h.gone.lt g rfl
  have h6 := (h.gone.stored k (.bool b)).1
  rw [flat_set1 goneCells goneCells_len is k (.bool b) ⟨i.at_, i.gen, i.ref, b⟩ hlt rfl] at h6
  have h4 := own_store h.iss h.gone (by decide) k (.bool b)
  have h5 := own_store h.ref h.gone (by decide) k (.bool b)
  rw [← flat_same issCells is k i ⟨i.at_, i.gen, i.ref, b⟩ hk rfl] at h4
  rw [← flat_same refCells is k i ⟨i.at_, i.gen, i.ref, b⟩ hk rfl] at h5
  refine ⟨h.box.far (p := ⟨g, k, none⟩) (by show W.heap.size ≠ g; omega) _, own_store h.tab h.gone (by decide) k (.bool b), ?_, ?_, ?_, h.bel.setCell (by show W.heap.size ≤ g; omega) _, by have := h.sz; simp; omega⟩
  · rw [List.length_set]; exact h4
  · rw [List.length_set]; exact h5
  · rw [List.length_set]; exact h6
/-- 'refs[k] = r' -/
theorem St.setRef {g : Nat} (h : St W w l is A c A4 c4 (some ⟨g, 0, none⟩) c5 A6 c6) {k : Nat} {i : Iss} (hk : is[k]? = some i) (r : BitVec 64) :
    St W (w.setCell ⟨g, k, none⟩ (.int .u64 (U r))) l (is.set k ⟨i.at_, i.gen, r, i.gone⟩) A c A4 c4 (some ⟨g, 0, none⟩) c5 A6 c6 := by
  have hlt := (List.getElem?_eq_some_iff.1 hk).1
  have hg := h.ref.lt g rfl
  have h5 := (h.ref.stored k (.int .u64 (U r))).1
  rw [flat_set1 refCells refCells_len is k (.int .u64 (U r)) ⟨i.at_, i.gen, r, i.gone⟩ hlt rfl] at h5
  have h4 := own_store h.iss h.ref (by decide) k (.int .u64 (U r))
  have h6 := own_store h.gone h.ref (by decide) k (.int .u64 (U r))
  rw [← flat_same issCells is k i ⟨i.at_, i.gen, r, i.gone⟩ hk rfl] at h4
  rw [← flat_same goneCells is k i ⟨i.at_, i.gen, r, i.gone⟩ hk rfl] at h6
  refine ⟨h.box.far (p := ⟨g, k, none⟩) (by show W.heap.size ≠ g; omega) _, own_store h.tab h.ref (by decide) k (.int .u64 (U r)), ?_, ?_, ?_, h.bel.setCell (by show W.heap.size ≤ g; omega) _, by have := h.sz; simp; omega⟩
  · rw [List.length_set]; exact h4
  · rw [List.length_set]; exact h5
  · rw [List.length_set]; exact h6
theorem own_some {w : World} {base n s c : Nat} {e : TypeId} {A : Option Addr} {xs : List Value} (h : w.ownsRow base e s (.slice A n c) n xs) (hn : 0 < n) : ∃ g, A = some ⟨g, 0, none⟩ := by
  rcases h.2 with ⟨-, hz⟩ | ⟨g, cap, cu, hg, -⟩
  · omega
  · injection hg with h1 h2 h3
    exact ⟨g, h1⟩
end
end Go.Proofs.Ytfcghhpbjnlldaa

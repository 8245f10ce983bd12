/- Variables that hold local handles lie apart from what the slices hold. -/
import Derived.Test.YtmcdhpbkhchpeaaScopeBox
namespace Go.Proofs.Ytmcdhpbkhchpeaa
open Go.ChangeShapes Go.WideShapes Go.RowKit Words

/-- a slice does not lie in a block that holds other things -/
theorem Reads.apart {w : World} {B s n c g : Nat} {t : TypeId} {A : Option Addr} {xs : List Value} {cs : Array Value} (h : Reads w B s A n c xs) (hs : 0 < s) (hb : Blk w g t cs) (hx : ∀ u ∈ xs, u ∉ cs.toList) {p : Addr} (hp : p.block = g) (u : Value) :
    Reads (w.setCell p u) B s A n c xs := by
  refine ⟨h.len, h.le, h.cap, h.none_, fun hn => ?_⟩
  obtain ⟨b, off, rfl, hbB, hc⟩ := h.at_ hn
  have hne : b ≠ g := by
    rintro rfl
    have hl : 0 < xs.length := by rw [h.len]; exact Nat.mul_pos hn hs
    have h0 := hc 0 _ (List.getElem?_eq_getElem hl)
    rw [cell_of_row w b (off + 0) cs t (0, 0) hb] at h0
    exact hx _ (List.getElem_mem hl) (by have := Array.mem_of_getElem? h0; simpa using this)
  exact ⟨b, off, rfl, hbB, fun j v hj => (World.cell?_setCell_other w p ⟨b, _, none⟩ u (fun e => hne (by rw [← hp, e]))).trans (hc j v hj)⟩
def noSlice (u : Value) : Bool := match u with | .slice _ _ _ => false | _ => true
theorem sl_noSlice (l : List Sl) : ∀ u ∈ l.flatMap slCells, noSlice u = true := by
  intro u hu
  rw [List.mem_flatMap] at hu
  obtain ⟨x, _, hx⟩ := hu
  simp only [slCells, List.mem_cons, List.not_mem_nil, or_false] at hx
  rcases hx with rfl | rfl | rfl <;> rfl
theorem sc_noSlice (l : List Sc) : ∀ u ∈ l.flatMap scCells, noSlice u = true := by
  intro u hu
  rw [List.mem_flatMap] at hu
  obtain ⟨x, _, hx⟩ := hu
  simp only [scCells, List.mem_cons, List.not_mem_nil, or_false] at hx
  rcases hx with rfl | rfl | rfl <;> rfl
theorem in_noSlice (l : List Int) : ∀ u ∈ l.flatMap intCells, noSlice u = true := by
  intro u hu
  rw [List.mem_flatMap] at hu
  obtain ⟨x, _, hx⟩ := hu
  simp only [intCells, List.mem_singleton] at hx
  subst hx; rfl
theorem wd_noSlice (l : List (BitVec 64)) : ∀ u ∈ l.flatMap wordCells, noSlice u = true := by
  intro u hu
  rw [List.mem_flatMap] at hu
  obtain ⟨x, _, hx⟩ := hu
  simp only [wordCells, List.mem_singleton] at hx
  subst hx; rfl
section
variable {w : World} {B s n c g : Nat} {t : TypeId} {A p1 p2 p3 q1 q2 q3 : Option Addr} {n1 n2 n3 c1 c2 c3 m1 m2 m3 k1 k2 k3 : Nat} {xs : List Value}
theorem Reads.box3 (h : Reads w B s A n c xs) (hs : 0 < s) (hb : Blk w g t #[.slice p1 n1 c1, .slice p2 n2 c2, .slice p3 n3 c3]) (hx : ∀ u ∈ xs, noSlice u = true) :
    Reads (((w.setCell ⟨g, 0, none⟩ (.slice q1 m1 k1)).setCell ⟨g, 1, none⟩ (.slice q2 m2 k2)).setCell ⟨g, 2, none⟩ (.slice q3 m3 k3)) B s A n c xs := by
  have key : ∀ (cs : Array Value), (∀ v ∈ cs.toList, noSlice v = false) → ∀ u ∈ xs, u ∉ cs.toList := fun cs hc u hu hm => by
    have h1 := hx u hu
    rw [hc u hm] at h1; cases h1
  have b1 := hb.put0 (.slice q1 m1 k1)
  have b2 := b1.put1 (.slice q2 m2 k2)
  exact ((h.apart hs hb (key _ (by simp [noSlice])) rfl _).apart hs b1 (key _ (by simp [noSlice])) rfl _).apart hs b2 (key _ (by simp [noSlice])) rfl _
theorem Reads.box3U (h : Reads w w.heap.size s A n c xs) (hs : 0 < s) (hb : Blk w g t #[.slice p1 n1 c1, .slice p2 n2 c2, .slice p3 n3 c3]) (hx : ∀ u ∈ xs, noSlice u = true) :
    Reads (((w.setCell ⟨g, 0, none⟩ (.slice q1 m1 k1)).setCell ⟨g, 1, none⟩ (.slice q2 m2 k2)).setCell ⟨g, 2, none⟩ (.slice q3 m3 k3)) (((w.setCell ⟨g, 0, none⟩ (.slice q1 m1 k1)).setCell ⟨g, 1, none⟩ (.slice q2 m2 k2)).setCell ⟨g, 2, none⟩ (.slice q3 m3 k3)).heap.size s A n c xs :=
  (h.box3 hs hb hx).more (by simp)
theorem LRd.box3 {As Ap Ai : Option Addr} {ns cs np cp ni ci : Nat} {S : List Sl} {P : List Sc} {I : List Int} (h : LRd w As ns cs Ap np cp Ai ni ci S P I) (hb : Blk w g t #[.slice p1 n1 c1, .slice p2 n2 c2, .slice p3 n3 c3]) :
    LRd (((w.setCell ⟨g, 0, none⟩ (.slice q1 m1 k1)).setCell ⟨g, 1, none⟩ (.slice q2 m2 k2)).setCell ⟨g, 2, none⟩ (.slice q3 m3 k3)) As ns cs Ap np cp Ai ni ci S P I :=
  ⟨h.s.box3U (by omega) hb (sl_noSlice S), h.p.box3U (by omega) hb (sc_noSlice P), h.i.box3U (by omega) hb (in_noSlice I)⟩
theorem Blk.far3 {g' : Nat} {t' : TypeId} {cs : Array Value} (h : Blk w g' t' cs) (hne : g' ≠ g) (a b c : Value) : Blk (((w.setCell ⟨g, 0, none⟩ a).setCell ⟨g, 1, none⟩ b).setCell ⟨g, 2, none⟩ c) g' t' cs :=
  ((h.far (p := ⟨g, 0, none⟩) hne a).far (p := ⟨g, 1, none⟩) hne b).far (p := ⟨g, 2, none⟩) hne c
end
section
variable {w : World} {g g' : Nat} {x y x' : Lc} {As Ap Ai Bs Bp Bi Cs Cp Ci : Option Addr} {cs cp ci ds dp di es ep ei : Nat}
theorem Loc.far3 (h : Loc w g x As cs Ap cp Ai ci) (h' : Loc w g' x' Bs ds Bp dp Bi di) (hne : g ≠ g') {q1 q2 q3 : Option Addr} {m1 m2 m3 k1 k2 k3 : Nat} :
    Loc (((w.setCell ⟨g', 0, none⟩ (.slice q1 m1 k1)).setCell ⟨g', 1, none⟩ (.slice q2 m2 k2)).setCell ⟨g', 2, none⟩ (.slice q3 m3 k3)) g x As cs Ap cp Ai ci :=
  ⟨h.box.far3 hne _ _ _, h.rd.box3 h'.box⟩
theorem Loc.put3 (h : Loc w g x As cs Ap cp Ai ci) (hr : LRd w Cs y.s.length es Cp y.p.length ep Ci y.i.length ei y.s y.p y.i) :
    Loc (((w.setCell ⟨g, 0, none⟩ (.slice Cs y.s.length es)).setCell ⟨g, 1, none⟩ (.slice Cp y.p.length ep)).setCell ⟨g, 2, none⟩ (.slice Ci y.i.length ei)) g y Cs es Cp ep Ci ei :=
  ⟨h.box.put3 _ _ _, hr.box3 h.box⟩
end
end Go.Proofs.Ytmcdhpbkhchpeaa

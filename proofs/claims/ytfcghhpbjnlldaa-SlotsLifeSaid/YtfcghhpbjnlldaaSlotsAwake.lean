/- The sanity check of the laws on tables. -/
import Derived.Test.YtfcghhpbjnlldaaSlots11
namespace Go.Proofs.Ytfcghhpbjnlldaa
open Go.RowKit Words

/-- a slice does not lie in a block that holds other things -/
theorem Reads.apart {w : World} {B s n c g : Nat} {t : TypeId} {A : Option Addr} {xs : List Value} {cs : Array Value} (h : Reads w B s A n c xs) (hs : 0 < s) (hb : Blk w g t cs) (hx : ∀ u ∈ xs, u ∉ cs.toList) {p : Addr} (hp : p.block = g) (u : Value) :
    Reads (w.setCell p u) B s A n c xs := by
  refine ⟨h.len, h.le, h.cap, h.none_, fun hn => ?_⟩
  obtain ⟨b, off, rfl, hbB, hc⟩ := h.at_ hn
  have hne : b ≠ g := by
    rintro rfl
    have hl : 0 < xs.length := by rw [h.len]; exact Nat.mul_pos hn hs
    have h0 := hc 0 _ (List.getElem?_eq_getElem hl)
    rw [cell_of_row w b (off + 0) cs t (0, 0) hb] at h0
    exact hx _ (List.getElem_mem hl) (by have := Array.mem_of_getElem? h0; simpa using this)
  exact ⟨b, off, rfl, hbB, fun j v hj => (World.cell?_setCell_other w p ⟨b, _, none⟩ u (fun e => hne (by rw [← hp, e]))).trans (hc j v hj)⟩
theorem ent_noslice (l : List Ent) (A : Option Addr) (n c : Nat) : ∀ u ∈ l.flatMap entCells, u ∉ (#[Value.slice A n c] : Array Value).toList := by
  intro u hu hs
  rw [List.mem_flatMap] at hu
  obtain ⟨x, _, hx⟩ := hu
  simp only [entCells, List.mem_cons, List.not_mem_nil, or_false] at hx
  simp only [List.mem_singleton] at hs
  subst hs
  rcases hx with h | h | h <;> cases h

theorem awake_any (w : World) : Calls Try.prog 8 #[] w fun e w' => e = .returned (.bool true) ∧ Below w.heap.size w w' := by
  have p1 : newW [] 5#64 = ([⟨1, 5#64, true⟩], 0, 1, 0) := by decide
  have p2 : delW [⟨1, 5#64, true⟩] 0 1 = ([⟨1, 0#64, false⟩], 0) := by decide
  have p3 : newW [⟨1, 0#64, false⟩] 6#64 = ([⟨2, 6#64, true⟩], 0, 2, 0) := by decide
  have P1 := Lib.hid p1
  have P2 := Lib.hid p2
  have P3 := Lib.hid p3
  clear p1 p2 p3
  go_enter Try.func8, Try.ntmps8
  go_wp2_with fail
  refine (new_any none 0 0 [] 5#64 _ Reads.nil (by omega)).mono ?_
  rw [P1.out]
  rintro e w1 ⟨A1, c1, rfl, hr1, hb1⟩
  have T1 := Blk.new w1 #[.slice A1 1 c1] 24
  have a1 := hr1.belowU (keep_alloc (Below.refl _ _) (.cells #[.slice A1 1 c1] 24))
  have hB1 := hb1.alloc hb1.size (.cells #[.slice A1 1 c1] 24)
  have hsz1 := hb1.size
  go_wp2_with fail
  refine (delete_any A1 1 c1 [⟨1, 5#64, true⟩] 0 1 _ a1 (by omega)).mono ?_
  rw [P2.out]
  rintro e w2 ⟨A2, c2, rfl, hr2, hb2⟩
  have T2 := T1.below hb2
  have q2 : w2.cell? ⟨w1.heap.size, 0, none⟩ = some (.slice A1 1 c1) := T2.cell 0 _ rfl
  have f2 := T2.free
  have a2 := hr2.apart (by omega) T2 (ent_noslice _ _ _ _) (p := ⟨w1.heap.size, 0, none⟩) rfl (.slice A2 1 c2)
  have a2' := a2.more (B' := (w2.setCell ⟨w1.heap.size, 0, none⟩ (.slice A2 1 c2)).heap.size) (by simp)
  have hB2 := (hB1.trans (hb2.mono (by simp; omega))).setCell (p := ⟨w1.heap.size, 0, none⟩) hsz1 (.slice A2 1 c2)
  have hsz2 := hb2.size
  go_wp2_with fail
  refine (new_any A2 1 c2 [⟨1, 0#64, false⟩] 6#64 _ a2' (by omega)).mono ?_
  rw [P3.out]
  rintro e w3 ⟨A3, c3, rfl, hr3, hb3⟩
  go_wp2_with fail
  go_ret
  exact ⟨rfl, (hB2.trans (hb3.mono (by simp at hsz2 ⊢; omega))).alloc (by have := hb3.size; simp at hsz2 this ⊢; omega) _⟩
end Go.Proofs.Ytfcghhpbjnlldaa

/- The contracts of the references of put, Set and Delete. -/
import Derived.Test.YtfcghhpbjnlldaaSlots6
namespace Go.Proofs.Ytfcghhpbjnlldaa
open Go.RowKit Words

theorem row_one (w : World) (x : Ent) : Reads (w.alloc (.cells #[.int .i64 x.gen, .int .u64 (U x.ref), .bool x.live] 30)) (w.heap.size + 1) 3 (some ⟨w.heap.size, 0, none⟩) 1 1 ([x].flatMap entCells) :=
  Reads.fresh w _ _ 3 1 rfl (by decide)

theorem set3 (l : List Ent) (k : Nat) (x : Ent) (hk : k < l.length) : (((l.flatMap entCells).set (k * 3) (.int .i64 x.gen)).set (k * 3 + 1) (.int .u64 (U x.ref))).set (k * 3 + 2) (.bool x.live) = (l.set k x).flatMap entCells := by
  obtain ⟨y, hy⟩ : ∃ y, l[k]? = some y := ⟨_, List.getElem?_eq_getElem hk⟩
  have e0 : (l.flatMap entCells).set (k * 3) (.int .i64 x.gen) = (l.set k ⟨x.gen, y.ref, y.live⟩).flatMap entCells := set_flat entCells 3 entCells_len l k 0 _ y _ hy (by omega) rfl
  have g1 : (l.set k ⟨x.gen, y.ref, y.live⟩)[k]? = some ⟨x.gen, y.ref, y.live⟩ := List.getElem?_set_self hk
  have e1 := set_flat entCells 3 entCells_len _ k 1 (.int .u64 (U x.ref)) ⟨x.gen, y.ref, y.live⟩ ⟨x.gen, x.ref, y.live⟩ g1 (by omega) rfl
  rw [List.set_set] at e1
  have g2 : (l.set k ⟨x.gen, x.ref, y.live⟩)[k]? = some ⟨x.gen, x.ref, y.live⟩ := List.getElem?_set_self hk
  have e2 := set_flat entCells 3 entCells_len _ k 2 (.bool x.live) ⟨x.gen, x.ref, y.live⟩ x g2 (by omega) rfl
  rw [List.set_set] at e2
  rw [e0, e1, e2]
theorem get_some {α : Type} (l : List α) (i : Nat) (h : i < l.length) : ∃ u, l[i]? = some u := ⟨_, List.getElem?_eq_getElem h⟩
theorem put_any (A : Option Addr) (n c : Nat) (l : List Ent) (k : Nat) (x : Ent) (w : World) (h : Reads w w.heap.size 3 A n c (l.flatMap entCells)) (hn : n ≤ 1000000) (hk : k < n) :
    Calls Try.prog 30 #[tabV A n c, .int .i64 k, entV x] w (RetTab w n ((l.set k x).flatMap entCells)) := by
  have hlen := h.length entCells_len (by omega)
  have hW : Below w.heap.size w (((w.alloc (.cells #[.slice A n c] 24)).alloc (.cells #[.int .i64 x.gen, .int .u64 (U x.ref), .bool x.live] 30)).alloc (.cells #[.slice none 0 0] 24)) := keep_alloc (keep_alloc (tab_alloc w A n c) _) _
  obtain ⟨W, hWe⟩ : ∃ W, ((w.alloc (.cells #[.slice A n c] 24)).alloc (.cells #[.int .i64 x.gen, .int .u64 (U x.ref), .bool x.live] 30)).alloc (.cells #[.slice none 0 0] 24) = W := ⟨_, rfl⟩
  have T0 : Blk W w.heap.size 24 #[.slice A n c] := by rw [← hWe]; exact ((Blk.new w _ _).alloc _).alloc _
  have X0 : Blk W (w.heap.size + 1) 30 #[.int .i64 x.gen, .int .u64 (U x.ref), .bool x.live] := by rw [← hWe]; exact (Blk.newAt (w.alloc _) _ _ (w.heap.size + 1) (by simp)).alloc _
  have R0 : Blk W (w.heap.size + 2) 24 #[.slice none 0 0] := by rw [← hWe]; exact Blk.newAt _ _ _ (w.heap.size + 2) (by simp)
  have hsW : W.heap.size = w.heap.size + 3 := by rw [← hWe]; simp
  rw [hWe] at hW
  have ha := (h.below hW).more (B' := W.heap.size) (by omega)
  have q0 : W.cell? ⟨w.heap.size, 0, none⟩ = some (.slice A n c) := T0.cell 0 _ rfl
  have hown0 := World.ownsRow_lit (e := 30) (size := 3) (base := W.heap.size) W #[] 0 (Nat.le_refl _) (by decide) rfl
  rw [hsW] at hown0
  have hone := entCells_one l
  have HN := Lib.hid hn
  have hcl : (l.flatMap entCells).length = n * 3 := by rw [flat_len _ 3 entCells_len, hlen]
  have HCL := Lib.hid hcl
  have HS := Lib.hid (set3 l k x (by omega))
  clear hn hlen hcl
  go_enter Try.func30, Try.ntmps30
  go_wp2_with (at_builtin; go_loud (refine wpList_app rfl _ _ _ rfl tyEnts rfl hown0 rfl (ha.alloc (Nat.le_refl _) _) hone (by have := HN.out; unfold maxLen; omega) (by have := HN.out; omega) (by simp <;> omega) ?_; intro v' w1 hown hb; have hbW : Below W.heap.size W w1 := (keep_alloc (Below.refl _ _) _).trans (hb.mono (by omega)); have X1 := X0.below hbW; have R1 := R0.below hbW; have x0 : w1.cell? ⟨w.heap.size + 1, 0, none⟩ = some (.int .i64 x.gen) := X1.cell 0 _ rfl; have x1 : w1.cell? ⟨w.heap.size + 1, 1, none⟩ = some (.int .u64 (U x.ref)) := X1.cell 1 _ rfl; have x2 : w1.cell? ⟨w.heap.size + 1, 2, none⟩ = some (.bool x.live) := X1.cell 2 _ rfl; have r0 : w1.cell? ⟨w.heap.size + 2, 0, none⟩ = some (.slice none 0 0) := R1.cell 0 _ rfl; have fr := R1.free; rw [Nat.zero_add, List.nil_append] at hown; rcases hown.2 with ⟨-, hz⟩ | ⟨gb, cap, cu, rfl, hbg, -, -, -, -, -⟩; (exfalso; omega); have k0 : (0 : Int) ≤ (k : Int) := (by omega); have k1 : (k : Int) < (n : Int) := (by omega); have f0 := hown.frozenAt (k * 3); have f1 := hown.frozenAt (k * 3 + 1); have f2 := hown.frozenAt (k * 3 + 2); have c0 := hown.cellAt (k * 3) (by omega); have c1 := hown.cellAt (k * 3 + 1) (by omega); have c2 := hown.cellAt (k * 3 + 2) (by omega); obtain ⟨u0, hu0⟩ := get_some (l.flatMap entCells) (k * 3) (by rw [HCL.out]; omega); obtain ⟨u1, hu1⟩ := get_some (l.flatMap entCells) (k * 3 + 1) (by rw [HCL.out]; omega); obtain ⟨u2, hu2⟩ := get_some (l.flatMap entCells) (k * 3 + 2) (by rw [HCL.out]; omega); rw [hu0] at c0; rw [hu1] at c1; rw [hu2] at c2))
  refine bodyPost_ret (v := tabV (some ⟨gb, 0, none⟩) n cap) (by simp [results, Try.results30, go_sem, r0]) rfl ?_
  have h1 := (hown.stored (k * 3) (.int .i64 x.gen)).1
  have h2 := (h1.stored (k * 3 + 1) (.int .u64 (U x.ref))).1
  have h3 := (h2.stored (k * 3 + 2) (.bool x.live)).1
  rw [HS.out] at h3
  refine ⟨_, _, rfl, own_base (ownsRow_setCell_below h3 (by show w.heap.size + 1 + 1 < _; omega) _) (by omega), ?_⟩
  have hB : Below w.heap.size w w1 := keep_below hbW hW
  exact (((hB.setCell (by show w.heap.size ≤ gb; omega) _).setCell (by show w.heap.size ≤ gb; omega) _).setCell (by show w.heap.size ≤ gb; omega) _).setCell (by show w.heap.size ≤ w.heap.size + 1 + 1; omega) _
end Go.Proofs.Ytfcghhpbjnlldaa

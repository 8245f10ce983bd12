/- The contracts of the references of Set and Delete. -/
import Derived.Test.YtfcghhpbjnlldaaSlots7
namespace Go.Proofs.Ytfcghhpbjnlldaa
open Go.RowKit Words

theorem rdelete_any (A : Option Addr) (n c : Nat) (l : List Ent) (i g : Int) (w : World) (h : Reads w w.heap.size 3 A n c (l.flatMap entCells)) (hn : n ≤ 1000000) :
    Calls Try.prog 22 #[tabV A n c, .int .i64 i, .int .i64 g] w (RetTE w (delW l i g)) := by
  have hlen := h.length entCells_len (by omega)
  have hW : Below w.heap.size w ((w.alloc (.cells #[.slice A n c] 24)).alloc (.cells #[.slice none 0 0] 24)) := keep_alloc (tab_alloc w A n c) _
  have B0 := (Blk.new w #[.slice A n c] 24).alloc (.cells #[.slice none 0 0] 24)
  have R0 := Blk.newAt (w.alloc (.cells #[.slice A n c] 24)) #[.slice none 0 0] 24 (w.heap.size + 1) (by simp)
  have ha := (h.below hW).more (B' := ((w.alloc (.cells #[.slice A n c] 24)).alloc (.cells #[.slice none 0 0] 24)).heap.size) (by simp; omega)
  by_cases h0 : checkW l i g = 0
  · obtain ⟨k, x, rfl, hx, hg, hlv⟩ := check_ok h0
    have hk : k < n := by rw [← hlen]; exact (List.getElem?_eq_some_iff.1 hx).1
    have hr : delW l k g = (l.set k ⟨g, 0#64, false⟩, 0) := by unfold delW; rw [if_pos h0, Int.toNat_natCast]
    obtain ⟨y, hgw⟩ : ∃ y, getW l k g = (y, 0) := by unfold getW; rw [if_pos h0]; exact ⟨_, rfl⟩
    have hsl : (l.set k ⟨g, 0#64, false⟩).length = n := by rw [List.length_set, hlen]
    rw [hr]
    have HC := Lib.hid hgw
    have HL := Lib.hid hsl
    have HN := Lib.hid hn
    clear h0 hsl hr hx hlen hg hlv hn hgw
    go_enter Try.func22, Try.ntmps22
    go_wp2_with fail
    refine (rget_any _ _ _ _ _ _ _ ha).mono ?_
    rw [HC.out]
    rintro e w1 ⟨rfl, hb1⟩
    unfold retW
    have B1 := B0.below hb1
    have R1 := R0.below hb1
    have hs1 := hb1.size
    simp at hs1
    have q0 : w1.cell? ⟨w.heap.size, 0, none⟩ = some (.slice A n c) := B1.cell 0 _ rfl
    have hB1 : Below w.heap.size w w1 := hW.trans (hb1.mono (by simp; omega))
    go_wp2_with fail
    refine (put_any A n c l k ⟨g, 0#64, false⟩ _ (ha.belowU hb1) HN.out hk).mono ?_
    rintro e w2 ⟨A', c', rfl, hown, hb2⟩
    have R2 := R1.below hb2
    have r0' : w2.cell? ⟨w.heap.size + 1, 0, none⟩ = some (.slice none 0 0) := R2.cell 0 _ rfl
    have fr := R2.free
    have hB2 : Below w.heap.size w w2 := keep_below hb2 hB1
    go_wp2_with fail
    refine bodyPost_ret (v := .tuple #[tabV A' n c', .int .i64 0]) (by simp [results, Try.results22, go_sem, r0']) rfl ?_
    have hown3 := ownsRow_setCell_below hown (a := ⟨w.heap.size + 1, 0, none⟩) (by show w.heap.size + 1 < _; omega) (.slice A' n c')
    obtain ⟨A2, c2, e2, hr2⟩ := Reads.own hown3
    injection e2 with x1 x2 x3
    subst x1 x3
    refine ⟨_, _, by rw [HL.out], by rw [HL.out]; exact hr2, ?_⟩
    exact hB2.setCell (by simp) _
  · obtain ⟨er, her⟩ : ∃ er, checkW l i g = er := ⟨_, rfl⟩
    have hr : delW l i g = ([], er) := by unfold delW; rw [if_neg h0, her]
    have hgw := getW_of her (by rw [← her]; exact h0)
    rw [hr]
    rw [her] at h0
    have h0' : (er != 0) = true := by simp [h0]
    have HC := Lib.hid hgw
    clear her h0 hr hgw
    go_enter Try.func22, Try.ntmps22
    go_wp2_with fail
    refine (rget_any _ _ _ _ _ _ _ ha).mono ?_
    rw [HC.out]
    rintro e w1 ⟨rfl, hb1⟩
    unfold retW
    have R1 := R0.below hb1
    have r0' : w1.cell? ⟨w.heap.size + 1, 0, none⟩ = some (.slice none 0 0) := R1.cell 0 _ rfl
    have fr := R1.free
    have hs1 := hb1.size
    simp at hs1
    have hB1 : Below w.heap.size w w1 := hW.trans (hb1.mono (by simp; omega))
    go_wp2_with fail
    refine bodyPost_ret (v := .tuple #[tabV none 0 0, .int .i64 er]) (by simp [results, Try.results22, go_sem, r0']) rfl ?_
    exact ⟨none, 0, rfl, Reads.nil, hB1.setCell (by simp) _⟩
theorem rset_any (A : Option Addr) (n c : Nat) (l : List Ent) (i g : Int) (r : BitVec 64) (w : World) (h : Reads w w.heap.size 3 A n c (l.flatMap entCells)) (hn : n ≤ 1000000) :
    Calls Try.prog 21 #[tabV A n c, .int .i64 i, .int .i64 g, .int .u64 (U r)] w (RetTE w (setW l i g r)) := by
  have hlen := h.length entCells_len (by omega)
  have hW : Below w.heap.size w ((w.alloc (.cells #[.slice A n c] 24)).alloc (.cells #[.slice none 0 0] 24)) := keep_alloc (tab_alloc w A n c) _
  have B0 := (Blk.new w #[.slice A n c] 24).alloc (.cells #[.slice none 0 0] 24)
  have R0 := Blk.newAt (w.alloc (.cells #[.slice A n c] 24)) #[.slice none 0 0] 24 (w.heap.size + 1) (by simp)
  have ha := (h.below hW).more (B' := ((w.alloc (.cells #[.slice A n c] 24)).alloc (.cells #[.slice none 0 0] 24)).heap.size) (by simp; omega)
  by_cases h0 : checkW l i g = 0
  · obtain ⟨k, x, rfl, hx, hg, hlv⟩ := check_ok h0
    have hk : k < n := by rw [← hlen]; exact (List.getElem?_eq_some_iff.1 hx).1
    have hr : setW l k g r = (l.set k ⟨g, r, true⟩, 0) := by unfold setW; rw [if_pos h0, Int.toNat_natCast]
    obtain ⟨y, hgw⟩ : ∃ y, getW l k g = (y, 0) := by unfold getW; rw [if_pos h0]; exact ⟨_, rfl⟩
    have hsl : (l.set k ⟨g, r, true⟩).length = n := by rw [List.length_set, hlen]
    rw [hr]
    have HC := Lib.hid hgw
    have HL := Lib.hid hsl
    have HN := Lib.hid hn
    clear h0 hsl hr hx hlen hg hlv hn hgw
    go_enter Try.func21, Try.ntmps21
    go_wp2_with fail
    refine (rget_any _ _ _ _ _ _ _ ha).mono ?_
    rw [HC.out]
    rintro e w1 ⟨rfl, hb1⟩
    unfold retW
    have B1 := B0.below hb1
    have R1 := R0.below hb1
    have hs1 := hb1.size
    simp at hs1
    have q0 : w1.cell? ⟨w.heap.size, 0, none⟩ = some (.slice A n c) := B1.cell 0 _ rfl
    have hB1 : Below w.heap.size w w1 := hW.trans (hb1.mono (by simp; omega))
    go_wp2_with fail
    refine (put_any A n c l k ⟨g, r, true⟩ _ (ha.belowU hb1) HN.out hk).mono ?_
    rintro e w2 ⟨A', c', rfl, hown, hb2⟩
    have R2 := R1.below hb2
    have r0' : w2.cell? ⟨w.heap.size + 1, 0, none⟩ = some (.slice none 0 0) := R2.cell 0 _ rfl
    have fr := R2.free
    have hB2 : Below w.heap.size w w2 := keep_below hb2 hB1
    go_wp2_with fail
    refine bodyPost_ret (v := .tuple #[tabV A' n c', .int .i64 0]) (by simp [results, Try.results21, go_sem, r0']) rfl ?_
    have hown3 := ownsRow_setCell_below hown (a := ⟨w.heap.size + 1, 0, none⟩) (by show w.heap.size + 1 < _; omega) (.slice A' n c')
    obtain ⟨A2, c2, e2, hr2⟩ := Reads.own hown3
    injection e2 with x1 x2 x3
    subst x1 x3
    refine ⟨_, _, by rw [HL.out], by rw [HL.out]; exact hr2, ?_⟩
    exact hB2.setCell (by simp) _
  · obtain ⟨er, her⟩ : ∃ er, checkW l i g = er := ⟨_, rfl⟩
    have hr : setW l i g r = ([], er) := by unfold setW; rw [if_neg h0, her]
    have hgw := getW_of her (by rw [← her]; exact h0)
    rw [hr]
    rw [her] at h0
    have h0' : (er != 0) = true := by simp [h0]
    have HC := Lib.hid hgw
    clear her h0 hr hgw
    go_enter Try.func21, Try.ntmps21
    go_wp2_with fail
    refine (rget_any _ _ _ _ _ _ _ ha).mono ?_
    rw [HC.out]
    rintro e w1 ⟨rfl, hb1⟩
    unfold retW
    have R1 := R0.below hb1
    have r0' : w1.cell? ⟨w.heap.size + 1, 0, none⟩ = some (.slice none 0 0) := R1.cell 0 _ rfl
    have fr := R1.free
    have hs1 := hb1.size
    simp at hs1
    have hB1 : Below w.heap.size w w1 := hW.trans (hb1.mono (by simp; omega))
    go_wp2_with fail
    refine bodyPost_ret (v := .tuple #[tabV none 0 0, .int .i64 er]) (by simp [results, Try.results21, go_sem, r0']) rfl ?_
    exact ⟨none, 0, rfl, Reads.nil, hB1.setCell (by simp) _⟩
end Go.Proofs.Ytfcghhpbjnlldaa

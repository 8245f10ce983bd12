/- The contract of slots.Delete. -/
import Derived.Test.YtfcghhpbjnlldaaSlots5
import Derived.Deep.RegionLaw
namespace Go.Proofs.Ytfcghhpbjnlldaa
open Go.RowKit Words

def delW (l : List Ent) (i g : Int) : List Ent × Int := if checkW l i g = 0 then (l.set i.toNat ⟨g, 0#64, false⟩, 0) else ([], checkW l i g)

set_option maxHeartbeats 2000000 in
theorem delete_own (A : Option Addr) (n c : Nat) (l : List Ent) (i g : Int) (w : World) (h : Reads w w.heap.size 3 A n c (l.flatMap entCells)) (hn : n ≤ 1000000) :
    Calls Try.prog 15 #[tabV A n c, .int .i64 i, .int .i64 g] w (RetTEO w (delW l i g)) := by
  have hlen := h.length entCells_len (by omega)
  have hcap := h.cap
  have hle := h.le
  unfold maxLen at hcap
  have hW : Below w.heap.size w ((w.alloc (.cells #[.slice A n c] 24)).alloc (.cells #[.slice none 0 0] 24)) := keep_alloc (tab_alloc w A n c) _
  have B0 := (Blk.new w #[.slice A n c] 24).alloc (.cells #[.slice none 0 0] 24)
  have R0 := Blk.newAt (w.alloc (.cells #[.slice A n c] 24)) #[.slice none 0 0] 24 (w.heap.size + 1) (by simp)
  have ha := (h.below hW).more (B' := ((w.alloc (.cells #[.slice A n c] 24)).alloc (.cells #[.slice none 0 0] 24)).heap.size) (by simp; omega)
  by_cases h0 : checkW l i g = 0
  · obtain ⟨k, x, rfl, hx, hg, hlv⟩ := check_ok h0
    have hk : k < n := by rw [← hlen]; exact (List.getElem?_eq_some_iff.1 hx).1
    have hr : delW l k g = (l.set k ⟨g, 0#64, false⟩, 0) := by unfold delW; rw [if_pos h0, Int.toNat_natCast]
    have hset : ((l.flatMap entCells).set (k * 3 + 1) (.int .u64 0)).set (k * 3 + 2) (.bool false) = (l.set k ⟨g, 0#64, false⟩).flatMap entCells := by
      rw [set_flat entCells 3 entCells_len l k 1 _ x ⟨g, 0#64, true⟩ hx (by omega) (by rw [← hg, ← hlv]; rfl)]
      rw [set_flat entCells 3 entCells_len _ k 2 _ ⟨g, 0#64, true⟩ ⟨g, 0#64, false⟩ (List.getElem?_set_self (List.getElem?_eq_some_iff.1 hx).1) (by omega) rfl, List.set_set]
    have hsl : (l.set k ⟨g, 0#64, false⟩).length = n := by rw [List.length_set, hlen]
    rw [hr]
    obtain ⟨L, hL⟩ : ∃ L, l.set k ⟨g, 0#64, false⟩ = L := ⟨_, rfl⟩
    rw [hL] at hset hsl ⊢
    have HC := Lib.hid h0
    have HS := Lib.hid hset
    have HL := Lib.hid hsl
    have hcl : (l.flatMap entCells).length = n * 3 := by rw [flat_len _ 3 entCells_len, hlen]
    have HCL := Lib.hid hcl
    have k0 : (0 : Int) ≤ (k : Int) := by omega
    have k1 : (k : Int) < (n : Int) := by omega
    have HN := Lib.hid hn
    clear h0 hset hsl hr hL hx hlen hg hlv hcl hn
    go_enter Try.func15, Try.ntmps15
    go_wp2_with fail
    refine (check_any _ _ _ _ _ _ _ ha).mono ?_
    rw [HC.out]
    rintro e w1 ⟨rfl, hb1⟩
    have B1 := B0.below hb1
    have R1 := R0.below hb1
    have hs1 := hb1.size
    simp at hs1
    have q0 : w1.cell? ⟨w.heap.size, 0, none⟩ = some (.slice A n c) := B1.cell 0 _ rfl
    have hB1 : Below w.heap.size w w1 := hW.trans (hb1.mono (by simp; omega))
    go_wp2_with fail
    refine (tabclone_any A n c l _ (ha.belowU hb1) HN.out).mono ?_
    rintro e w2 ⟨A', c', rfl, hown, hb2⟩
    rcases hown.2 with ⟨-, hz⟩ | ⟨gb, cap, cu, hgb, hbg, -, -, -, -, -⟩
    · exfalso; omega
    simp only [Value.slice.injEq] at hgb
    obtain ⟨rfl, -, rfl⟩ := hgb
    have B2 := B1.below hb2
    have R2 := R1.below hb2
    have hs2 := hb2.size
    have q0' : w2.cell? ⟨w.heap.size, 0, none⟩ = some (.slice A n c) := B2.cell 0 _ rfl
    have r0' : w2.cell? ⟨w.heap.size + 1, 0, none⟩ = some (.slice none 0 0) := R2.cell 0 _ rfl
    have fq := B2.free
    have fr := R2.free
    have fz := hown.frozenAt (k * 3 + 1)
    have hcell := hown.cellAt (k * 3 + 1) (by omega)
    rw [List.getElem?_eq_getElem (by rw [HCL.out]; omega)] at hcell
    have fz2 := hown.frozenAt (k * 3 + 2)
    have hcell2 := hown.cellAt (k * 3 + 2) (by omega)
    rw [List.getElem?_eq_getElem (by rw [HCL.out]; omega)] at hcell2
    have hown1 := ownsRow_setCell_below hown (a := ⟨w.heap.size, 0, none⟩) (by show w.heap.size < _; omega) (.slice (some ⟨gb, 0, none⟩) n c')
    have hown2 := (((hown1.stored (k * 3 + 1) (.int .u64 0)).1).stored (k * 3 + 2) (.bool false)).1
    rw [HS.out] at hown2
    have HST := Lib.hid hown2
    have hB2 : Below w.heap.size w w2 := keep_below hb2 hB1
    clear hown1 hown2 hown q0 B0 R0 B1 R1
    go_wp2_with fail
    go_region_law (fail)
    all_goals
      go_wp2_with fail
      refine bodyPost_ret (v := .tuple #[tabV (some ⟨gb, 0, none⟩) n c', .int .i64 0]) (by simp [results, Try.results15, go_sem, r0']) rfl ?_
      have hown3 := ownsRow_setCell_below (World.ownsRow.drew HST.out) (a := ⟨w.heap.size + 1, 0, none⟩) (by show w.heap.size + 1 < _; omega) (.slice (some ⟨gb, 0, none⟩) n c')
      refine ⟨_, _, by rw [HL.out], by rw [HL.out]; exact own_base hown3 (by omega), ?_⟩
      exact ((((hB2.setCell (by simp) _).setCell (by show w.heap.size ≤ gb; omega) _).setCell (by show w.heap.size ≤ gb; omega) _).drew).setCell (by simp) _
  · obtain ⟨er, her⟩ : ∃ er, checkW l i g = er := ⟨_, rfl⟩
    have hr : delW l i g = ([], er) := by unfold delW; rw [if_neg h0, her]
    rw [hr]
    rw [her] at h0
    have h0' : (er != 0) = true := by simp [h0]
    have HC := Lib.hid her
    clear her h0 hr
    go_enter Try.func15, Try.ntmps15
    go_wp2_with fail
    refine (check_any _ _ _ _ _ _ _ ha).mono ?_
    rw [HC.out]
    rintro e w1 ⟨rfl, hb1⟩
    have R1 := R0.below hb1
    have r0' : w1.cell? ⟨w.heap.size + 1, 0, none⟩ = some (.slice none 0 0) := R1.cell 0 _ rfl
    have fr := R1.free
    have hs1 := hb1.size
    simp at hs1
    have hB1 : Below w.heap.size w w1 := hW.trans (hb1.mono (by simp; omega))
    go_wp2_with fail
    refine bodyPost_ret (v := .tuple #[tabV none 0 0, .int .i64 er]) (by simp [results, Try.results15, go_sem, r0']) rfl ?_
    exact ⟨none, 0, rfl, World.ownsRow_nil _ _ _ _, hB1.setCell (by simp) _⟩
theorem delete_any (A : Option Addr) (n c : Nat) (l : List Ent) (i g : Int) (w : World) (h : Reads w w.heap.size 3 A n c (l.flatMap entCells)) (hn : n ≤ 1000000) :
    Calls Try.prog 15 #[tabV A n c, .int .i64 i, .int .i64 g] w (RetTE w (delW l i g)) :=
  (delete_own A n c l i g w h hn).mono fun _ _ h => h.read
end Go.Proofs.Ytfcghhpbjnlldaa

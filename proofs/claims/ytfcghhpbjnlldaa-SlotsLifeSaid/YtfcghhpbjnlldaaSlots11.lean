/- The contract of slots.New. -/
import Derived.Test.YtfcghhpbjnlldaaSlotsLaw
import Derived.Test.YtfcghhpbjnlldaaUnused2
namespace Go.Proofs.Ytfcghhpbjnlldaa
open Go.RowKit Words

/-- a table, an index, a generation and an error code come back -/
def RetNew (w : World) (r : List Ent × Int × Int × Int) (e : Ending) (w' : World) : Prop :=
  ∃ A c, e = .returned (.tuple #[tabV A r.1.length c, .int .i64 r.2.1, .int .i64 r.2.2.1, .int .i64 r.2.2.2]) ∧ Reads w' w'.heap.size 3 A r.1.length c (r.1.flatMap entCells) ∧ Below w.heap.size w w'

/-- the same, in memory of the call's own -/
def RetNewO (w : World) (r : List Ent × Int × Int × Int) (e : Ending) (w' : World) : Prop :=
  ∃ A c, e = .returned (.tuple #[tabV A r.1.length c, .int .i64 r.2.1, .int .i64 r.2.2.1, .int .i64 r.2.2.2]) ∧ w'.ownsRow w.heap.size 30 3 (.slice A r.1.length c) r.1.length (r.1.flatMap entCells) ∧ Below w.heap.size w w'
theorem RetNewO.read {w : World} {r : List Ent × Int × Int × Int} {e : Ending} {w' : World} (h : RetNewO w r e w') : RetNew w r e w' := by
  obtain ⟨A, c, he, ho, hb⟩ := h
  obtain ⟨A2, c2, e2, hr⟩ := Reads.own ho
  injection e2 with x1 x2 x3
  subst x1 x3
  exact ⟨A, c, he, hr, hb⟩

set_option maxHeartbeats 2000000 in
theorem new_own (A : Option Addr) (n c : Nat) (l : List Ent) (r : BitVec 64) (w : World) (h : Reads w w.heap.size 3 A n c (l.flatMap entCells)) (hn : n ≤ 1000000) :
    Calls Try.prog 7 #[tabV A n c, .int .u64 (U r)] w (RetNewO w (newW l r)) := by
  have hlen := h.length entCells_len (by omega)
  have hcap := h.cap
  have hle := h.le
  unfold maxLen at hcap
  have hW : Below w.heap.size w ((w.alloc (.cells #[.slice A n c] 24)).alloc (.cells #[.slice none 0 0] 24)) := keep_alloc (tab_alloc w A n c) _
  have B0 := (Blk.new w #[.slice A n c] 24).alloc (.cells #[.slice none 0 0] 24)
  have R0 := Blk.newAt (w.alloc (.cells #[.slice A n c] 24)) #[.slice none 0 0] 24 (w.heap.size + 1) (by simp)
  have ha := (h.below hW).more (B' := ((w.alloc (.cells #[.slice A n c] 24)).alloc (.cells #[.slice none 0 0] 24)).heap.size) (by simp; omega)
  have HN := Lib.hid hn
  have hone := entCells_one l
  clear hn
  by_cases hv : validT l = true
  · have HV := Lib.hid hv
    have hu := useE_any l
    by_cases hlt : firstUse l < l.length
    · obtain ⟨x, hx, hux⟩ := firstUse_at l hlt
      rw [newW_use r hv hx]
      have hb := (badE_no x).1 (((valid_iff l).1 hv).2 x (List.mem_of_getElem? hx))
      obtain ⟨hb0, hb1, -⟩ := hb
      have hU := show unusedW l = ((firstUse l : Int), true) by unfold unusedW; rw [hu, decide_eq_true hlt]
      obtain ⟨k, hk⟩ : ∃ k, firstUse l = k := ⟨_, rfl⟩
      rw [hk] at hU hx hlt ⊢
      have hkn : k < n := by omega
      have hset := set3 l k ⟨x.gen + 1, r, true⟩ hlt
      have hsl : (l.set k ⟨x.gen + 1, r, true⟩).length = n := by rw [List.length_set, hlen]
      have hflat := flat_at entCells 3 entCells_len l k 0 (by omega) x hx
      obtain ⟨L, hL⟩ : ∃ L, l.set k ⟨x.gen + 1, r, true⟩ = L := ⟨_, rfl⟩
      rw [hL] at hset hsl ⊢
      have hcl : (l.flatMap entCells).length = n * 3 := by rw [flat_len _ 3 entCells_len, hlen]
      have HU := Lib.hid hU
      have HS := Lib.hid hset
      have HL := Lib.hid hsl
      have HF := Lib.hid hflat
      have HCL := Lib.hid hcl
      have k0 : (0 : Int) ≤ (k : Int) := by omega
      have k1 : (k : Int) < (n : Int) := by omega
      clear hU hset hsl hL hlen hcl hu hv hflat hx hux hk hlt
      go_enter Try.func7, Try.ntmps7
      go_wp2_with fail
      refine (valid_any _ _ _ _ _ ha).mono ?_
      rintro e w1 ⟨rfl, hb1'⟩
      rw [HV.out]
      have B1 := B0.below hb1'
      have R1 := R0.below hb1'
      have hs1 := hb1'.size
      simp at hs1
      have q0 : w1.cell? ⟨w.heap.size, 0, none⟩ = some (.slice A n c) := B1.cell 0 _ rfl
      have hB1 : Below w.heap.size w w1 := hW.trans (hb1'.mono (by simp; omega))
      go_wp2_with fail
      refine (unused_any _ _ _ _ _ (ha.belowU hb1') HN.out).mono ?_
      rw [HU.out]
      rintro e w2 ⟨rfl, hb2⟩
      have B2 := B1.below hb2
      have R2 := R1.below hb2
      have hs2 := hb2.size
      have q1 : w2.cell? ⟨w.heap.size, 0, none⟩ = some (.slice A n c) := B2.cell 0 _ rfl
      have hB2 : Below w.heap.size w w2 := keep_below hb2 hB1
      go_wp2_with fail
      refine (tabclone_any A n c l _ ((ha.belowU hb1').belowU hb2) HN.out).mono ?_
      rintro e w3 ⟨A', c', rfl, hown, hb3⟩
      rcases hown.2 with ⟨-, hz⟩ | ⟨gb, cap, cu, hgb, hbg, -, -, -, -, -⟩
      · exfalso; omega
      simp only [Value.slice.injEq] at hgb
      obtain ⟨rfl, -, rfl⟩ := hgb
      have R3 := R2.below hb3
      have hs3 := hb3.size
      have r0' : w3.cell? ⟨w.heap.size + 1, 0, none⟩ = some (.slice none 0 0) := R3.cell 0 _ rfl
      have fr := R3.free
      have f0 := hown.frozenAt (k * 3)
      have f1 := hown.frozenAt (k * 3 + 1)
      have f2 := hown.frozenAt (k * 3 + 2)
      have c0 : w3.cell? ⟨gb, k * 3, none⟩ = some (.int .i64 x.gen) := (hown.cellAt (k * 3) (by omega)).trans HF.out
      have c1 := hown.cellAt (k * 3 + 1) (by omega)
      have c2 := hown.cellAt (k * 3 + 2) (by omega)
      obtain ⟨u1, hu1⟩ := get_some (l.flatMap entCells) (k * 3 + 1) (by rw [HCL.out]; omega)
      obtain ⟨u2, hu2⟩ := get_some (l.flatMap entCells) (k * 3 + 2) (by rw [HCL.out]; omega)
      rw [hu1] at c1
      rw [hu2] at c2
      have hown1 := ownsRow_setCell_below hown (a := ⟨w.heap.size + 1, 0, none⟩) (by show w.heap.size + 1 < _; omega) (.slice (some ⟨gb, 0, none⟩) n c')
      have hown2 := ((((hown1.stored (k * 3) (.int .i64 (x.gen + 1))).1).stored (k * 3 + 1) (.int .u64 (U r))).1.stored (k * 3 + 2) (.bool true)).1
      rw [HS.out] at hown2
      have HST := Lib.hid hown2
      have hB3 : Below w.heap.size w w3 := keep_below hb3 hB2
      clear hown1 hown2 hown hu1 hu2 q0 q1
      go_wp2_with fail
      have hBW : Below w.heap.size w ((((w3.setCell ⟨w.heap.size + 1, 0, none⟩ (.slice (some ⟨gb, 0, none⟩) n c')).setCell ⟨gb, k * 3, none⟩ (.int .i64 (x.gen + 1))).setCell ⟨gb, k * 3 + 1, none⟩ (.int .u64 (U r))).setCell ⟨gb, k * 3 + 2, none⟩ (.bool true)) := (((hB3.setCell (by simp) _).setCell (by show w.heap.size ≤ gb; omega) _).setCell (by show w.heap.size ≤ gb; omega) _).setCell (by show w.heap.size ≤ gb; omega) _
      have cT : ((((w3.setCell ⟨w.heap.size + 1, 0, none⟩ (.slice (some ⟨gb, 0, none⟩) n c')).setCell ⟨gb, k * 3, none⟩ (.int .i64 (x.gen + 1))).setCell ⟨gb, k * 3 + 1, none⟩ (.int .u64 (U r))).setCell ⟨gb, k * 3 + 2, none⟩ (.bool true)).cell? ⟨w.heap.size + 1, 0, none⟩ = some (.slice (some ⟨gb, 0, none⟩) n c') := by
        have hne : w.heap.size + 1 ≠ gb := by omega
        exact ((((R3.set 0 (.slice (some ⟨gb, 0, none⟩) n c')).far hne _).far hne _).far hne _).cell 0 _ rfl
      have cF : ((((w3.setCell ⟨w.heap.size + 1, 0, none⟩ (.slice (some ⟨gb, 0, none⟩) n c')).setCell ⟨gb, k * 3, none⟩ (.int .i64 (x.gen + 1))).setCell ⟨gb, k * 3 + 1, none⟩ (.int .u64 (U r))).setCell ⟨gb, k * 3 + 2, none⟩ (.bool true)).frozen? ⟨w.heap.size + 1, 0, none⟩ = false := by
        have hne : w.heap.size + 1 ≠ gb := by omega
        exact ((((R3.set 0 (.slice (some ⟨gb, 0, none⟩) n c')).far hne _).far hne _).far hne _).free 0
      have cG := HST.out.cellAt (k * 3) (by omega)
      rw [← HS.out, List.getElem?_set_ne (by omega), List.getElem?_set_ne (by omega), List.getElem?_set_self (by rw [HCL.out]; omega)] at cG
      obtain ⟨W, hW'⟩ : ∃ W, ((((w3.setCell ⟨w.heap.size + 1, 0, none⟩ (.slice (some ⟨gb, 0, none⟩) n c')).setCell ⟨gb, k * 3, none⟩ (.int .i64 (x.gen + 1))).setCell ⟨gb, k * 3 + 1, none⟩ (.int .u64 (U r))).setCell ⟨gb, k * 3 + 2, none⟩ (.bool true)) = W := ⟨_, rfl⟩
      rw [hW'] at hBW cT cF cG HST ⊢
      clear hW' f0 f1 f2 c0 c1 c2 r0' fr
      go_region_law (fail)
      all_goals
        go_wp2_with fail
        refine bodyPost_ret (v := .tuple #[tabV (some ⟨gb, 0, none⟩) n c', .int .i64 k, .int .i64 (x.gen + 1), .int .i64 0]) (by simp [results, Try.results7, go_sem, cT]) rfl ?_
        have hown3 := ownsRow_setCell_below (World.ownsRow.drew HST.out) (a := ⟨w.heap.size + 1, 0, none⟩) (by show w.heap.size + 1 < _; omega) (.slice (some ⟨gb, 0, none⟩) n c')
        refine ⟨_, _, by rw [HL.out], by rw [HL.out]; exact own_base hown3 (by omega), ?_⟩
        exact (hBW.drew).setCell (by simp) _
    · have hU : unusedW l = ((n : Int), false) := by
        unfold unusedW; rw [hu, decide_eq_false hlt]
        have := firstUse_le l
        rw [show firstUse l = n by omega]
      by_cases hl : l.length < 64
      · rw [newW_add r hv hlt hl]
        have hset := set3 (l ++ [⟨0, 0#64, false⟩]) n ⟨1, r, true⟩ (by simp; omega)
        have hLL : (l ++ [(⟨0, 0#64, false⟩ : Ent)]).set n ⟨1, r, true⟩ = l ++ [⟨1, r, true⟩] := by rw [List.set_append_right _ _ (by omega), hlen, Nat.sub_self]; rfl
        have hcc : (l ++ [(⟨0, 0#64, false⟩ : Ent)]).flatMap entCells = l.flatMap entCells ++ [.int .i64 0, .int .u64 0, .bool false] := by rw [List.flatMap_append]; rfl
        rw [hLL, hcc] at hset
        have hcl : (l.flatMap entCells).length = n * 3 := by rw [flat_len _ 3 entCells_len, hlen]
        have hd64 : decide ((64 : Int) ≤ (n : Int)) = false := by simp; omega
        have h64 : n < 64 := by omega
        have hsl : (l ++ [(⟨1, r, true⟩ : Ent)]).length = n + 1 := by simp [hlen]
        obtain ⟨L, hL⟩ : ∃ L, l ++ [(⟨1, r, true⟩ : Ent)] = L := ⟨_, rfl⟩
        rw [hL] at hset hsl ⊢
        have HU := Lib.hid hU
        have HS := Lib.hid hset
        have HL := Lib.hid hsl
        have HCL := Lib.hid hcl
        have HLEN := Lib.hid hlen
        have k0 : (0 : Int) ≤ (n : Int) := by omega
        have k1 : (n : Int) < (n : Int) + 1 := by omega
        have q1' : n + 1 ≤ maxLen := by unfold maxLen; omega
        have q2' : (n + 1) * 24 ≤ 140737488355328 := by omega
        clear hU hset hsl hL hcl hlen hu hv hlt hLL hcc hl
        go_enter Try.func7, Try.ntmps7
        go_wp2_with fail
        refine (valid_any _ _ _ _ _ ha).mono ?_
        rintro e w1 ⟨rfl, hb1'⟩
        rw [HV.out]
        have B1 := B0.below hb1'
        have R1 := R0.below hb1'
        have hs1 := hb1'.size
        simp at hs1
        have q0 : w1.cell? ⟨w.heap.size, 0, none⟩ = some (.slice A n c) := B1.cell 0 _ rfl
        have hB1 : Below w.heap.size w w1 := hW.trans (hb1'.mono (by simp; omega))
        go_wp2_with fail
        refine (unused_any _ _ _ _ _ (ha.belowU hb1') HN.out).mono ?_
        rw [HU.out]
        rintro e w2 ⟨rfl, hb2⟩
        have B2 := B1.below hb2
        have R2 := R1.below hb2
        have hs2 := hb2.size
        have q1 : w2.cell? ⟨w.heap.size, 0, none⟩ = some (.slice A n c) := B2.cell 0 _ rfl
        have hB2 : Below w.heap.size w w2 := keep_below hb2 hB1
        go_wp2_with fail
        refine (tabclone_any A n c l _ ((ha.belowU hb1').belowU hb2) HN.out).mono ?_
        rintro e w3 ⟨A', c', rfl, hown, hb3⟩
        have R3 := R2.below hb3
        have hs3 := hb3.size
        have r0' : w3.cell? ⟨w.heap.size + 1, 0, none⟩ = some (.slice none 0 0) := R3.cell 0 _ rfl
        have fr := R3.free
        have hB3 : Below w.heap.size w w3 := keep_below hb3 hB2
        have hown1 := ownsRow_setCell_below hown (a := ⟨w.heap.size + 1, 0, none⟩) (by show w.heap.size + 1 < _; omega) (.slice A' n c')
        have hfr := Reads.freshAt (w3.setCell ⟨w.heap.size + 1, 0, none⟩ (.slice A' n c')) #[.int .i64 0, .int .u64 0, .bool false] 30 3 1 [.int .i64 0, .int .u64 0, .bool false] w3.heap.size (by simp) rfl rfl (by decide)
        have R4 := (R3.set 0 (.slice A' n c')).alloc (.cells #[.int .i64 0, .int .u64 0, .bool false] 30)
        clear hown
        go_wp2_with (at_builtin; refine wpList_app rfl _ _ _ rfl tyEnts rfl (hown1.alloc _) rfl hfr (by simp [Value.oneCell']) q1' q2' (by simp; omega) ?_; intro v' w4 hown4 hb4; rcases hown4.2 with ⟨-, hz⟩ | ⟨gb, cap, cu, rfl, hbg, -, -, -, -, -⟩; (exfalso; omega); have R5 := R4.belowB hb4 (by omega); have r0 : w4.cell? ⟨w.heap.size + 1, 0, none⟩ = some (.slice A' n c') := R5.cell 0 _ rfl; have fr4 := R5.free; have f0 := hown4.frozenAt (n * 3); have f1 := hown4.frozenAt (n * 3 + 1); have f2 := hown4.frozenAt (n * 3 + 2); have c0 : w4.cell? ⟨gb, n * 3, none⟩ = some (.int .i64 0) := (hown4.cellAt (n * 3) (by omega)).trans (by rw [List.getElem?_append_right (by rw [HCL.out]; omega), HCL.out, Nat.sub_self]; rfl); have c1 : w4.cell? ⟨gb, n * 3 + 1, none⟩ = some (.int .u64 0) := (hown4.cellAt (n * 3 + 1) (by omega)).trans (by rw [List.getElem?_append_right (by rw [HCL.out]; omega), HCL.out, Nat.add_sub_cancel_left]; rfl); have c2 : w4.cell? ⟨gb, n * 3 + 2, none⟩ = some (.bool false) := (hown4.cellAt (n * 3 + 2) (by omega)).trans (by rw [List.getElem?_append_right (by rw [HCL.out]; omega), HCL.out, Nat.add_sub_cancel_left]; rfl))
        have hown5 := ((((ownsRow_setCell_below hown4 (a := ⟨w.heap.size + 1, 0, none⟩) (by show w.heap.size + 1 < _; omega) (.slice (some ⟨gb, 0, none⟩) (n + 1) cap)).stored (n * 3) (.int .i64 1)).1.stored (n * 3 + 1) (.int .u64 (U r))).1.stored (n * 3 + 2) (.bool true)).1
        have cG := hown5.cellAt (n * 3) (by omega)
        rw [List.getElem?_set_ne (by omega), List.getElem?_set_ne (by omega), List.getElem?_set_self (by rw [List.length_append, HCL.out]; simp)] at cG
        rw [HS.out] at hown5
        have HST := Lib.hid hown5
        have hB4 : Below w.heap.size w w4 := ((hB3.setCell (by simp) _).alloc (by simp; omega) _).trans (hb4.mono (by omega))
        have hBW : Below w.heap.size w ((((w4.setCell ⟨w.heap.size + 1, 0, none⟩ (.slice (some ⟨gb, 0, none⟩) (n + 1) cap)).setCell ⟨gb, n * 3, none⟩ (.int .i64 1)).setCell ⟨gb, n * 3 + 1, none⟩ (.int .u64 (U r))).setCell ⟨gb, n * 3 + 2, none⟩ (.bool true)) := (((hB4.setCell (by simp) _).setCell (by show w.heap.size ≤ gb; omega) _).setCell (by show w.heap.size ≤ gb; omega) _).setCell (by show w.heap.size ≤ gb; omega) _
        have hne : w.heap.size + 1 ≠ gb := by omega
        have RW := (((R5.set 0 (.slice (some ⟨gb, 0, none⟩) (n + 1) cap)).far (p := ⟨gb, n * 3, none⟩) hne (.int .i64 1)).far (p := ⟨gb, n * 3 + 1, none⟩) hne (.int .u64 (U r))).far (p := ⟨gb, n * 3 + 2, none⟩) hne (.bool true)
        have cT : ((((w4.setCell ⟨w.heap.size + 1, 0, none⟩ (.slice (some ⟨gb, 0, none⟩) (n + 1) cap)).setCell ⟨gb, n * 3, none⟩ (.int .i64 1)).setCell ⟨gb, n * 3 + 1, none⟩ (.int .u64 (U r))).setCell ⟨gb, n * 3 + 2, none⟩ (.bool true)).cell? ⟨w.heap.size + 1, 0, none⟩ = some (.slice (some ⟨gb, 0, none⟩) (n + 1) cap) := RW.cell 0 _ rfl
        have cF := RW.free 0
        clear hown5 hown4 hown1 hfr R4 R5 RW r0 fr4 f0 f1 f2 c0 c1 c2 r0' fr
        obtain ⟨W, hW'⟩ : ∃ W, ((((w4.setCell ⟨w.heap.size + 1, 0, none⟩ (.slice (some ⟨gb, 0, none⟩) (n + 1) cap)).setCell ⟨gb, n * 3, none⟩ (.int .i64 1)).setCell ⟨gb, n * 3 + 1, none⟩ (.int .u64 (U r))).setCell ⟨gb, n * 3 + 2, none⟩ (.bool true)) = W := ⟨_, rfl⟩
        rw [hW'] at hBW cT cF cG HST ⊢
        clear hW'
        go_region_law (fail)
        all_goals
          go_wp2_with fail
          refine bodyPost_ret (v := .tuple #[tabV (some ⟨gb, 0, none⟩) (n + 1) cap, .int .i64 n, .int .i64 1, .int .i64 0]) (by simp [results, Try.results7, go_sem, cT]) rfl ?_
          have hown6 := ownsRow_setCell_below (World.ownsRow.drew HST.out) (a := ⟨w.heap.size + 1, 0, none⟩) (by show w.heap.size + 1 < _; omega) (.slice (some ⟨gb, 0, none⟩) (n + 1) cap)
          refine ⟨_, _, by rw [HL.out, HLEN.out], by rw [HL.out]; exact own_base hown6 (by omega), ?_⟩
          exact (hBW.drew).setCell (by simp) _
      · rw [newW_full r hv hlt hl]
        have hd64 : decide ((64 : Int) ≤ (n : Int)) = true := by simp; omega
        have HU := Lib.hid hU
        clear hU hu hv hlt hl hlen
        go_enter Try.func7, Try.ntmps7
        go_wp2_with fail
        refine (valid_any _ _ _ _ _ ha).mono ?_
        rintro e w1 ⟨rfl, hb1'⟩
        rw [HV.out]
        have B1 := B0.below hb1'
        have R1 := R0.below hb1'
        have hs1 := hb1'.size
        simp at hs1
        have q0 : w1.cell? ⟨w.heap.size, 0, none⟩ = some (.slice A n c) := B1.cell 0 _ rfl
        have hB1 : Below w.heap.size w w1 := hW.trans (hb1'.mono (by simp; omega))
        go_wp2_with fail
        refine (unused_any _ _ _ _ _ (ha.belowU hb1') HN.out).mono ?_
        rw [HU.out]
        rintro e w2 ⟨rfl, hb2⟩
        have B2 := B1.below hb2
        have R2 := R1.below hb2
        have hs2 := hb2.size
        have q1 : w2.cell? ⟨w.heap.size, 0, none⟩ = some (.slice A n c) := B2.cell 0 _ rfl
        have r0 : w2.cell? ⟨w.heap.size + 1, 0, none⟩ = some (.slice none 0 0) := R2.cell 0 _ rfl
        have fr := R2.free
        have hB2 : Below w.heap.size w w2 := keep_below hb2 hB1
        go_wp2_with fail
        refine bodyPost_ret (v := .tuple #[tabV none 0 0, .int .i64 0, .int .i64 0, .int .i64 18]) (by simp [results, Try.results7, go_sem, r0]) rfl ?_
        exact ⟨none, 0, rfl, World.ownsRow_nil _ _ _ _, hB2.setCell (by simp) _⟩
  · simp only [Bool.not_eq_true] at hv
    rw [newW_bad r hv]
    have HV := Lib.hid hv
    clear hv hlen
    go_enter Try.func7, Try.ntmps7
    go_wp2_with fail
    refine (valid_any _ _ _ _ _ ha).mono ?_
    rintro e w1 ⟨rfl, hb1'⟩
    rw [HV.out]
    have R1 := R0.below hb1'
    have hs1 := hb1'.size
    simp at hs1
    have r0 : w1.cell? ⟨w.heap.size + 1, 0, none⟩ = some (.slice none 0 0) := R1.cell 0 _ rfl
    have fr := R1.free
    have hB1 : Below w.heap.size w w1 := hW.trans (hb1'.mono (by simp; omega))
    go_wp2_with fail
    refine bodyPost_ret (v := .tuple #[tabV none 0 0, .int .i64 0, .int .i64 0, .int .i64 1]) (by simp [results, Try.results7, go_sem, r0]) rfl ?_
    exact ⟨none, 0, rfl, World.ownsRow_nil _ _ _ _, hB1.setCell (by simp) _⟩
theorem new_any (A : Option Addr) (n c : Nat) (l : List Ent) (r : BitVec 64) (w : World) (h : Reads w w.heap.size 3 A n c (l.flatMap entCells)) (hn : n ≤ 1000000) :
    Calls Try.prog 7 #[tabV A n c, .int .u64 (U r)] w (RetNew w (newW l r)) :=
  (new_own A n c l r w h hn).mono fun _ _ h => h.read
end Go.Proofs.Ytfcghhpbjnlldaa

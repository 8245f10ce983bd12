/- The contract of the reference's Delete. -/
import Derived.Test.YtmcdhpbkhchpeaaScopeRet
import Derived.Test.YtmcdhpbkhchpeaaScope12
import Derived.Deep.Cut
namespace Go.Proofs.Ytmcdhpbkhchpeaa
open Go.ChangeShapes Go.WideShapes Go.RowKit Words

set_option linter.unusedSimpArgs false in
set_option maxRecDepth 100000 in
set_option maxHeartbeats 4000000 in
theorem rdelete_any (As : Option Addr) (ns cs : Nat) (Ap : Option Addr) (np cp : Nat) (Ai : Option Addr) (ni ci : Nat) (S : List Sl) (P : List Sc) (I : List Int) (i t : Int) (w : World) (h : LRd w As ns cs Ap np cp Ai ni ci S P I)
    (hs : ns ≤ 1000000) :
    Calls Try.prog 30 #[locV As ns cs Ap np cp Ai ni ci, .int .i64 i, .int .i64 t] w (RetLR w (delL ⟨S, P, I⟩ i t)) := by
  obtain ⟨hS, hP, hI⟩ := h.lens
  have hB : Below w.heap.size w ((w.alloc (.cells #[.slice As ns cs, .slice Ap np cp, .slice Ai ni ci] 26)).alloc (.cells #[.slice none 0 0, .slice none 0 0, .slice none 0 0] 26)) := keep_alloc (loc_alloc w _ _ _ _) _
  have B0 := (Blk.new w #[.slice As ns cs, .slice Ap np cp, .slice Ai ni ci] 26).alloc (.cells #[.slice none 0 0, .slice none 0 0, .slice none 0 0] 26)
  have R0 := Blk.newAt (w.alloc (.cells #[.slice As ns cs, .slice Ap np cp, .slice Ai ni ci] 26)) #[.slice none 0 0, .slice none 0 0, .slice none 0 0] 26 (w.heap.size + 1) (by simp)
  have hh := h.belowU hB
  have HHW := Lib.hid h
  have HS := Lib.hid hS
  have HP := Lib.hid hP
  have HI := Lib.hid hI
  have hsz : ((w.alloc (.cells #[.slice As ns cs, .slice Ap np cp, .slice Ai ni ci] 26)).alloc (.cells #[.slice none 0 0, .slice none 0 0, .slice none 0 0] 26)).heap.size = w.heap.size + 2 := by simp
  have HSZ := Lib.hid hsz
  clear h hS hP hI hsz
  obtain ⟨r, hr⟩ : ∃ r, getL ⟨S, P, I⟩ i t = r := ⟨_, rfl⟩
  obtain ⟨v, er⟩ := r
  have HG := Lib.hid hr
  by_cases her : er = 0
  · subst her
    obtain ⟨k, x, rfl, hx, hxt, hxl, -, -⟩ := getL_ok (by rw [hr])
    dsimp only at hx
    have HD : Hid (delL ⟨S, P, I⟩ (k : Int) t = (⟨S.set k ⟨t, 0#64, false⟩, P, I⟩, 0)) := Lib.hid (delL_ok (x := ⟨S, P, I⟩) (i := (k : Int)) (t := t) (by rw [hr]))
    have hkn : k < ns := by rw [← HS.out]; exact (List.getElem?_eq_some_iff.1 hx).1
    obtain ⟨st, rf, lv⟩ := x
    dsimp only at hxt hxl
    subst hxt hxl
    have hset : (((S.flatMap slCells).set (k * 3) (.int .i64 st)).set (k * 3 + 1) (.int .u64 0)).set (k * 3 + 2) (.bool false) = (S.set k ⟨st, 0#64, false⟩).flatMap slCells := by
      have e0 := set_flatS slCells 3 slCells_len S k 0 (.int .i64 st) ⟨st, rf, true⟩ ⟨st, rf, true⟩ hx (by omega) rfl
      rw [Nat.add_zero] at e0
      rw [e0]
      have hl := (List.getElem?_eq_some_iff.1 hx).1
      rw [set_flatS slCells 3 slCells_len _ k 1 (.int .u64 0) ⟨st, rf, true⟩ ⟨st, 0#64, true⟩ (List.getElem?_set_self hl) (by omega) rfl, List.set_set]
      rw [set_flatS slCells 3 slCells_len _ k 2 (.bool false) ⟨st, 0#64, true⟩ ⟨st, 0#64, false⟩ (List.getElem?_set_self hl) (by omega) rfl, List.set_set]
    have HSET := Lib.hid hset
    have hc0 : (S.flatMap slCells)[k * 3]? = some (.int .i64 st) := by have := flat_at slCells 3 slCells_len S k 0 (by omega) _ hx; rw [Nat.add_zero] at this; rw [this]; rfl
    have hc1 : (S.flatMap slCells)[k * 3 + 1]? = some (.int .u64 (U rf)) := by rw [flat_at slCells 3 slCells_len S k 1 (by omega) _ hx]; rfl
    have hc2 : (S.flatMap slCells)[k * 3 + 2]? = some (.bool true) := by rw [flat_at slCells 3 slCells_len S k 2 (by omega) _ hx]; rfl
    have HC0 := Lib.hid hc0
    have HC1 := Lib.hid hc1
    have HC2 := Lib.hid hc2
    have k0 : (0 : Int) ≤ (k : Int) := by omega
    have k1 : (k : Int) < (ns : Int) := by omega
    have q1 : 0 + ns ≤ maxLen := by unfold maxLen; omega
    have q2 : (0 + ns) * 24 ≤ 140737488355328 := by omega
    clear hset hr hx hc0 hc1 hc2 hs
    go_enter Try.func30, Try.ntmps30
    go_wp2_with fail
    refine (rget_any As ns cs Ap np cp Ai ni ci S P I k st _ hh).mono ?_
    rw [HG.out]
    rintro e w1 ⟨rfl, hb1⟩
    unfold retG
    have B1 := B0.below hb1
    have R1 := R0.below hb1
    have hh1 := hh.belowU hb1
    have hB1 := keep_below hb1 hB
    have hs1 : w.heap.size + 2 ≤ w1.heap.size := by have := HSZ.out; have := hb1.size; omega
    have b0 : (w1.alloc (.cells #[] 62)).cell? ⟨w.heap.size, 0, none⟩ = some (.slice As ns cs) := (B1.alloc _).cell 0 _ rfl
    have own1 := own_lit0 w1 62 3 w1.heap.size w1.heap.size (Nat.le_refl _) rfl
    have rd1 := hh1.s.alloc (Nat.le_refl _) (.cells #[] 62)
    have hb0' : w1.cell? ⟨w.heap.size, 0, none⟩ = some (.slice As ns cs) := B1.cell 0 _ rfl
    clear B0 R0 hh hB hb1
    go_upto_region 6 with (at_builtin; go_loud (refine wpList_appG rfl _ _ _ rfl tySl rfl own1 rfl rd1 (slCells_one S) q1 q2 (by simp) ?_; intro v' w5 hown5 hg5; rw [Nat.zero_add, List.nil_append] at hown5; rcases hown5.2 with ⟨-, hz⟩ | ⟨gb, cap, cu, rfl, hbg, -, -, -, -, -⟩; (exfalso; omega); have hb5 : Below w1.heap.size w1 w5 := (keep_alloc (Below.refl _ _) _).trans (below_own own1 hg5 (Nat.le_refl _) (by simp)); have B5 := B1.below hb5; have t5 := B5.cell 0 _ rfl; have f5 := B5.free; have hne : gb ≠ w.heap.size := (by omega); have x0 := (hown5.cellAt (k * 3) (by omega)).trans HC0.out; have x1 := (hown5.cellAt (k * 3 + 1) (by omega)).trans HC1.out; have x2 := (hown5.cellAt (k * 3 + 2) (by omega)).trans HC2.out; have z0 := cell_far (p := ⟨w.heap.size, 0, none⟩) (u := .slice (some ⟨gb, 0, none⟩) ns cap) (fun e => hne e.symm) x0; have z1 := cell_far (p := ⟨w.heap.size, 0, none⟩) (u := .slice (some ⟨gb, 0, none⟩) ns cap) (fun e => hne e.symm) x1; have z2 := cell_far (p := ⟨w.heap.size, 0, none⟩) (u := .slice (some ⟨gb, 0, none⟩) ns cap) (fun e => hne e.symm) x2; have g0 := hown5.frozenAt (k * 3); have g1 := hown5.frozenAt (k * 3 + 1); have g2 := hown5.frozenAt (k * 3 + 2)))
    have T5 := (((B5.put0 (.slice (some ⟨gb, 0, none⟩) ns cap)).far (p := ⟨gb, k * 3, none⟩) (fun e => hne e.symm) (.int .i64 st)).far (p := ⟨gb, k * 3 + 1, none⟩) (fun e => hne e.symm) (.int .u64 0)).far (p := ⟨gb, k * 3 + 2, none⟩) (fun e => hne e.symm) (.bool false)
    have hne1 : gb ≠ w.heap.size + 1 := by omega
    have R5 := ((((R1.below hb5).far (p := ⟨w.heap.size, 0, none⟩) (by show w.heap.size + 1 ≠ w.heap.size; omega) (.slice (some ⟨gb, 0, none⟩) ns cap)).far (p := ⟨gb, k * 3, none⟩) (fun e => hne1 e.symm) (.int .i64 st)).far (p := ⟨gb, k * 3 + 1, none⟩) (fun e => hne1 e.symm) (.int .u64 0)).far (p := ⟨gb, k * 3 + 2, none⟩) (fun e => hne1 e.symm) (.bool false)
    have O5 := (((ownsRow_setCell_below hown5 (a := ⟨w.heap.size, 0, none⟩) (by show w.heap.size < _; omega) (.slice (some ⟨gb, 0, none⟩) ns cap)).stored (k * 3) (.int .i64 st)).1.stored (k * 3 + 1) (.int .u64 0)).1.stored (k * 3 + 2) (.bool false)
    have O5 := O5.1
    rw [HSET.out] at O5
    have B6 := (((((keep_below hb5 hB1).setCell (p := ⟨w.heap.size, 0, none⟩) (by show w.heap.size ≤ w.heap.size; omega) (.slice (some ⟨gb, 0, none⟩) ns cap)).setCell (p := ⟨gb, k * 3, none⟩) (by show w.heap.size ≤ gb; omega) (.int .i64 st)).setCell (p := ⟨gb, k * 3 + 1, none⟩) (by show w.heap.size ≤ gb; omega) (.int .u64 0)).setCell (p := ⟨gb, k * 3 + 2, none⟩) (by show w.heap.size ≤ gb; omega) (.bool false))
    clear x0 x1 x2 z0 z1 z2 g0 g1 g2 t5 f5 B5 hown5 hg5 hb5 b0 own1 rd1 hb0' B1 R1 hh1
    obtain ⟨w6, hw6⟩ : ∃ w6, (((w5.setCell ⟨w.heap.size, 0, none⟩ (.slice (some ⟨gb, 0, none⟩) ns cap)).setCell ⟨gb, k * 3, none⟩ (.int .i64 st)).setCell ⟨gb, k * 3 + 1, none⟩ (.int .u64 0)).setCell ⟨gb, k * 3 + 2, none⟩ (.bool false) = w6 := ⟨_, rfl⟩
    rw [hw6] at T5 R5 O5 B6 ⊢
    clear hw6
    have a0 := T5.cell 0 _ rfl
    have a1 := T5.cell 1 _ rfl
    have a2 := T5.cell 2 _ rfl
    have r0 := R5.cell 0 _ rfl
    have r1 := R5.cell 1 _ rfl
    have r2 := R5.cell 2 _ rfl
    have fr := R5.free
    have G := R5.put3 (.slice (some ⟨gb, 0, none⟩) ns cap) (.slice Ap np cp) (.slice Ai ni ci)
    have g0 := G.cell 0 _ rfl
    have g1 := G.cell 1 _ rfl
    have g2 := G.cell 2 _ rfl
    have hBF := keep_set3 B6 (.slice (some ⟨gb, 0, none⟩) ns cap) (.slice Ap np cp) (.slice Ai ni ci)
    have own7 := own_put3 O5 (g := w.heap.size + 1) (by omega) (.slice (some ⟨gb, 0, none⟩) ns cap) (.slice Ap np cp) (.slice Ai ni ci)
    have HO := Lib.hid (LRd.mk (reads_own own7) ((HHW.out.p.below hBF).more hBF.size) ((HHW.out.i.below hBF).more hBF.size))
    have HBF := Lib.hid hBF
    clear G R5 T5 O5 own7 B6 hBF
    go_wp2_with fail
    refine bodyPost_ret (v := .tuple #[locV (some ⟨gb, 0, none⟩) ns cap Ap np cp Ai ni ci, .int .i64 0]) (by simp [results, Try.results30, go_sem, g0, g1, g2]) rfl ?_
    exact RetLR.mk' HD.out HO.out HBF.out
  · have HD := Lib.hid (delL_no (x := ⟨S, P, I⟩) (i := i) (t := t) (by rw [hr]) her)
    have hne : (er != 0) = true := by simp [her]
    clear hr her
    go_enter Try.func30, Try.ntmps30
    go_wp2_with fail
    refine (rget_any As ns cs Ap np cp Ai ni ci S P I i t _ hh).mono ?_
    rw [HG.out]
    rintro e w1 ⟨rfl, hb1⟩
    unfold retG
    have R1 := R0.below hb1
    have hB1 := keep_below hb1 hB
    have fr := R1.free
    have r0 := R1.cell 0 _ rfl
    have r1 := R1.cell 1 _ rfl
    have r2 := R1.cell 2 _ rfl
    have G := R1.put3 (.slice none 0 0) (.slice none 0 0) (.slice none 0 0)
    have g0 := G.cell 0 _ rfl
    have g1 := G.cell 1 _ rfl
    have g2 := G.cell 2 _ rfl
    clear B0 R0 hh hB hb1 G R1
    go_wp2_with fail
    refine bodyPost_ret (v := .tuple #[locV none 0 0 none 0 0 none 0 0, .int .i64 er]) (by simp [results, Try.results30, go_sem, g0, g1, g2]) rfl ?_
    rw [HD.out]
    exact RetLR.fail hB1
end Go.Proofs.Ytmcdhpbkhchpeaa

/- The contract of the reference of New. -/
import Derived.Test.YtfcghhpbjnlldaaSlots11
namespace Go.Proofs.Ytfcghhpbjnlldaa
open Go.RowKit Words

theorem firstUse_drop {l : List Ent} {k : Nat} {x : Ent} (hx : l[k]? = some x) (hf : firstUse l = firstUse (l.drop k) + k) :
    (useE x = true → firstUse l = k) ∧ (useE x = false → firstUse l = firstUse (l.drop (k + 1)) + (k + 1)) := by
  rw [drop_at hx, firstUse] at hf
  constructor
  · intro h; rw [if_pos h] at hf; omega
  · intro h; rw [if_neg (by rw [h]; decide)] at hf; omega

set_option maxHeartbeats 2000000 in
theorem rnew_any (A : Option Addr) (n c : Nat) (l : List Ent) (r : BitVec 64) (w : World) (h : Reads w w.heap.size 3 A n c (l.flatMap entCells)) (hn : n ≤ 1000000) :
    Calls Try.prog 18 #[tabV A n c, .int .u64 (U r)] w (RetNew w (newW l r)) := by
  have hlen := h.length entCells_len (by omega)
  have hW : Below w.heap.size w ((w.alloc (.cells #[.slice A n c] 24)).alloc (.cells #[.slice none 0 0] 24)) := keep_alloc (tab_alloc w A n c) _
  have B0 := (Blk.new w #[.slice A n c] 24).alloc (.cells #[.slice none 0 0] 24)
  have R0 := Blk.newAt (w.alloc (.cells #[.slice A n c] 24)) #[.slice none 0 0] 24 (w.heap.size + 1) (by simp)
  have ha := (h.below hW).more (B' := ((w.alloc (.cells #[.slice A n c] 24)).alloc (.cells #[.slice none 0 0] 24)).heap.size) (by simp; omega)
  have HN := Lib.hid hn
  have hone := entCells_one l
  clear hn
  by_cases hv : validT l = true
  · have HV := Lib.hid hv
    have HLEN := Lib.hid hlen
    have hcl : (l.flatMap entCells).length = n * 3 := by rw [flat_len _ 3 entCells_len, hlen]
    have HCL := Lib.hid hcl
    have hfl := firstUse_le l
    rw [hlen] at hfl
    have q1' : n + 1 ≤ maxLen := by have := HN.out; unfold maxLen; omega
    have q2' : (n + 1) * 24 ≤ 140737488355328 := by have := HN.out; omega
    clear hv hlen hcl
    go_enter Try.func18, Try.ntmps18
    go_wp2_with fail
    refine (rvalid_any _ _ _ _ _ ha).mono ?_
    rintro e w1 ⟨rfl, hb1'⟩
    rw [HV.out]
    have B1 := B0.below hb1'
    have R1 := R0.below hb1'
    have hs1 := hb1'.size
    simp at hs1
    have q0 : w1.cell? ⟨w.heap.size, 0, none⟩ = some (.slice A n c) := B1.cell 0 _ rfl
    have hB1 : Below w.heap.size w w1 := hW.trans (hb1'.mono (by simp; omega))
    have hown0 := World.ownsRow_lit (e := 30) (size := 3) (base := w1.heap.size) w1 #[] 0 (Nat.le_refl _) (by decide) rfl
    have hr1 := ha.belowU hb1'
    have q0a : (w1.alloc (.cells #[] 30)).cell? ⟨w.heap.size, 0, none⟩ = some (.slice A n c) := (B1.alloc _).cell 0 _ rfl
    go_wp2_with (at_builtin; go_loud (refine wpList_app rfl _ _ _ rfl tyEnts rfl hown0 rfl (hr1.alloc (Nat.le_refl _) _) hone (by have := HN.out; unfold maxLen; omega) (by have := HN.out; omega) (by simp) ?_; intro v' w2 hown hb2))
    rw [Nat.zero_add, List.nil_append] at hown
    have hb2' : Below w1.heap.size w1 w2 := (keep_alloc (Below.refl _ _) _).trans hb2
    obtain ⟨A', c', rfl, hr2⟩ := Reads.own hown
    have R2 := R1.below hb2'
    have hs2 := hb2'.size
    have r0' : w2.cell? ⟨w.heap.size + 1, 0, none⟩ = some (.slice none 0 0) := R2.cell 0 _ rfl
    have fr := R2.free
    have hB2 : Below w.heap.size w w2 := hB1.trans (hb2'.mono (by omega))
    clear hown0 hb2
    go_loop [9] (fun x => ∃ k : Nat, k ≤ n ∧ x = .int .i64 k ∧ firstUse l = firstUse (l.drop k) + k) (fun x => n - (intOf x).toNat)
    case atStart => exact ⟨0, Nat.zero_le _, rfl, rfl⟩
    case round =>
      obtain ⟨k, hk, rfl, hspec⟩ := hrel
      by_cases hlt : k < n
      · obtain ⟨gb0, off, x, hA, hbb, hx, hc⟩ := hr2.elem entCells_len (by omega) hlt
        rcases hown.2 with ⟨-, hz⟩ | ⟨gb, cap, cu, hgb, hbg, -, -, -, -, -⟩
        · exfalso; omega
        simp only [Value.slice.injEq] at hgb
        obtain ⟨rfl, -, rfl⟩ := hgb
        simp only [Option.some.injEq, Addr.mk.injEq, and_true] at hA
        obtain ⟨rfl, rfl⟩ := hA
        have d0 := hc 0 _ rfl
        have d1 := hc 1 _ rfl
        have d2 := hc 2 _ rfl
        rw [Nat.zero_add] at d0 d1 d2
        rw [Nat.add_zero] at d0
        have hk0 : (0 : Int) ≤ (k : Int) := by omega
        have hk1 : (k : Int) < (n : Int) := by omega
        obtain ⟨hf1, hf2⟩ := firstUse_drop hx hspec
        have hb := (badE_no x).1 (((valid_iff l).1 HV.out).2 x (List.mem_of_getElem? hx))
        obtain ⟨hb0, hb1, -⟩ := hb
        have HX := Lib.hid hx
        clear hc hx hspec
        by_cases hu : useE x = true
        · have hux := hu
          unfold useE at hux
          rw [Bool.and_eq_true, Bool.not_eq_true', bne_iff_ne] at hux
          have hfk := hf1 hu
          have hres := newW_use r HV.out (x := x) (by rw [hfk]; exact HX.out)
          rw [hfk] at hres
          have HRES := Lib.hid hres
          have hset := set3 l k ⟨x.gen + 1, r, true⟩ (by rw [HLEN.out]; exact hlt)
          have hsl : (l.set k ⟨x.gen + 1, r, true⟩).length = n := by rw [List.length_set, HLEN.out]
          obtain ⟨L, hL⟩ : ∃ L, l.set k ⟨x.gen + 1, r, true⟩ = L := ⟨_, rfl⟩
          rw [hL] at hset hsl hres
          have HRES := Lib.hid hres
          have HS := Lib.hid hset
          have HL := Lib.hid hsl
          obtain ⟨xg, xr, xl⟩ := x
          dsimp only at d0 d1 d2 hux hb0 hb1 ⊢
          obtain ⟨hx1, hx2⟩ := hux
          have hne : w.heap.size + 1 ≠ gb := by omega
          have hg1 : xg < 4294967295 := by omega
          have f0 := hown.frozenAt (k * 3)
          have f1 := hown.frozenAt (k * 3 + 1)
          have f2 := hown.frozenAt (k * 3 + 2)
          have hown5 := (((hown.stored (k * 3) (.int .i64 (xg + 1))).1.stored (k * 3 + 1) (.int .u64 (U r))).1.stored (k * 3 + 2) (.bool true)).1
          have cG := hown5.cellAt (k * 3) (by omega)
          rw [List.getElem?_set_ne (by omega), List.getElem?_set_ne (by omega), List.getElem?_set_self (by rw [HCL.out]; omega)] at cG
          rw [HS.out] at hown5
          have HST := Lib.hid hown5
          have hBW := (((hB2.setCell (p := ⟨gb, k * 3, none⟩) (by show w.heap.size ≤ gb; omega) (.int .i64 (xg + 1))).setCell (p := ⟨gb, k * 3 + 1, none⟩) (by show w.heap.size ≤ gb; omega) (.int .u64 (U r))).setCell (p := ⟨gb, k * 3 + 2, none⟩) (by show w.heap.size ≤ gb; omega) (.bool true))
          have RW := ((R2.far (p := ⟨gb, k * 3, none⟩) hne (.int .i64 (xg + 1))).far (p := ⟨gb, k * 3 + 1, none⟩) hne (.int .u64 (U r))).far (p := ⟨gb, k * 3 + 2, none⟩) hne (.bool true)
          subst hx1
          have HG := Lib.hid hfk
          clear hown5 hu hset hsl hL hf1 hf2 hfk hres hx2
          go_wp2_with fail
          have cT := RW.cell 0 _ rfl
          have cF := RW.free 0
          obtain ⟨W, hW'⟩ : ∃ W, (((w2.setCell ⟨gb, k * 3, none⟩ (.int .i64 (xg + 1))).setCell ⟨gb, k * 3 + 1, none⟩ (.int .u64 (U r))).setCell ⟨gb, k * 3 + 2, none⟩ (.bool true)) = W := ⟨_, rfl⟩
          rw [hW'] at hBW cT cF cG HST ⊢
          clear hW' f0 f1 f2 d0 d1 d2 r0' fr hown hr2
          go_region_law (fail)
          all_goals
            go_wp2_with fail
            refine bodyPost_ret (v := .tuple #[tabV (some ⟨gb, 0, none⟩) n c', .int .i64 k, .int .i64 (xg + 1), .int .i64 0]) (by simp [results, Try.results18, go_sem, cT]) rfl ?_
            rw [HRES.out]
            have hown6 := ownsRow_setCell_below (World.ownsRow.drew HST.out) (a := ⟨w.heap.size + 1, 0, none⟩) (by show w.heap.size + 1 < _; omega) (.slice (some ⟨gb, 0, none⟩) n c')
            obtain ⟨A2, c2', e2, hr2⟩ := Reads.own hown6
            injection e2 with x1 x2 x3
            subst x1 x3
            refine ⟨_, _, by rw [HL.out], by rw [HL.out]; exact hr2, ?_⟩
            exact (hBW.drew).setCell (by simp) _
        · simp only [Bool.not_eq_true] at hu
          have hsp := hf2 hu
          have HSP := Lib.hid hsp
          obtain ⟨xg, xr, xl⟩ := x
          dsimp only at d0 d1 d2 hb0 hb1
          unfold useE at hu
          cases xl
          · have hd : decide (xg < 4294967295) = false := by
              simp at hu
              rw [hu]; rfl
            clear hu hf1 hf2 hsp hb0 hb1
            go_wp2_with fail
            go_round
            case rel => exact ⟨k + 1, by omega, by go_num, HSP.out⟩
            case measure => simp [intOf]; omega
          · clear hu hf1 hf2 hsp hb0 hb1
            go_wp2_with fail
            go_round
            case rel => exact ⟨k + 1, by omega, by go_num, HSP.out⟩
            case measure => simp [intOf]; omega
      · have hkn : k = n := by omega
        subst hkn
        rw [List.drop_eq_nil_of_le (by rw [HLEN.out]; omega)] at hspec
        have hfk : firstUse l = k := by rw [hspec]; simp [firstUse]
        have hno : ¬ firstUse l < l.length := by rw [hfk, HLEN.out]; omega
        have hl64 := ((valid_iff l).1 HV.out).1
        rw [HLEN.out] at hl64
        by_cases h64 : k = 64
        · have hres := newW_full r HV.out hno (by rw [HLEN.out]; omega)
          have HRES := Lib.hid hres
          have hd : ((k : Int) == 64) = true := by rw [h64]; rfl
          clear hspec hfk hno hres h64 hlt
          go_wp2_with fail
          refine bodyPost_ret (v := .tuple #[tabV none 0 0, .int .i64 0, .int .i64 0, .int .i64 18]) (by simp [results, Try.results18, go_sem, r0']) rfl ?_
          rw [HRES.out]
          exact ⟨none, 0, rfl, Reads.nil, hB2.setCell (by simp) _⟩
        · have hres := newW_add r HV.out hno (by rw [HLEN.out]; omega)
          have HRES := Lib.hid hres
          have hd : ((k : Int) == 64) = false := by simp; omega
          have hsl : (l ++ [(⟨1, r, true⟩ : Ent)]).length = k + 1 := by simp [HLEN.out]
          have hfl2 : l.flatMap entCells ++ [.int .i64 1, .int .u64 (U r), .bool true] = (l ++ [(⟨1, r, true⟩ : Ent)]).flatMap entCells := by rw [List.flatMap_append]; rfl
          obtain ⟨L, hL⟩ : ∃ L, l ++ [(⟨1, r, true⟩ : Ent)] = L := ⟨_, rfl⟩
          rw [hL] at hsl hfl2 hres
          have HRES := Lib.hid hres
          have HL := Lib.hid hsl
          have HS := Lib.hid hfl2
          clear hspec hfk hno hres h64 hlt hL hsl hfl2 hr2
          go_wp2_with (at_builtin; refine wpList_app rfl _ _ _ rfl tyEnts rfl (hown.alloc _) rfl (Reads.fresh _ _ _ 3 1 rfl (by decide)) (by simp [Value.oneCell']) q1' q2' (by simp; omega) ?_; intro v' w3 hown3 hb3; have R3 := (R2.alloc (.cells #[.int .i64 1, .int .u64 (U r), .bool true] 30)).belowB hb3 (by omega); have r3 : w3.cell? ⟨w.heap.size + 1, 0, none⟩ = some (.slice none 0 0) := R3.cell 0 _ rfl; have fr3 := R3.free; rw [HS.out] at hown3; obtain ⟨A3, c3, rfl, hr3⟩ := Reads.own hown3)
          refine bodyPost_ret (v := .tuple #[tabV A3 (k + 1) c3, .int .i64 k, .int .i64 1, .int .i64 0]) (by simp [results, Try.results18, go_sem, r3]) rfl ?_
          rw [HRES.out]
          have hown6 := ownsRow_setCell_below hown3 (a := ⟨w.heap.size + 1, 0, none⟩) (by show w.heap.size + 1 < _; omega) (.slice A3 (k + 1) c3)
          obtain ⟨A2, c2', e2, hr2⟩ := Reads.own hown6
          injection e2 with x1 x2 x3
          subst x1 x3
          refine ⟨_, _, by rw [HL.out, HLEN.out], by rw [HL.out]; exact hr2, ?_⟩
          exact ((hB2.alloc (by omega) _).trans (hb3.mono (by omega))).setCell (by simp) _
  · simp only [Bool.not_eq_true] at hv
    rw [newW_bad r hv]
    have HV := Lib.hid hv
    clear hv hlen
    go_enter Try.func18, Try.ntmps18
    go_wp2_with fail
    refine (rvalid_any _ _ _ _ _ ha).mono ?_
    rintro e w1 ⟨rfl, hb1'⟩
    rw [HV.out]
    have R1 := R0.below hb1'
    have hs1 := hb1'.size
    simp at hs1
    have r0 : w1.cell? ⟨w.heap.size + 1, 0, none⟩ = some (.slice none 0 0) := R1.cell 0 _ rfl
    have fr := R1.free
    have hB1 : Below w.heap.size w w1 := hW.trans (hb1'.mono (by simp; omega))
    go_wp2_with fail
    refine bodyPost_ret (v := .tuple #[tabV none 0 0, .int .i64 0, .int .i64 0, .int .i64 1]) (by simp [results, Try.results18, go_sem, r0]) rfl ?_
    exact ⟨none, 0, rfl, Reads.nil, hB1.setCell (by simp) _⟩
end Go.Proofs.Ytfcghhpbjnlldaa

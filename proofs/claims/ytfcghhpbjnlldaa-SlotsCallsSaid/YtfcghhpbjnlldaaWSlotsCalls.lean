/- The walk of SlotsCalls. PRINTED BY A PROGRAM (mk_slotscalls.py). -/
import Derived.Test.YtfcghhpbjnlldaaSlotsBox
import Derived.Test.YtfcghhpbjnlldaaSlots12
import Derived.Test.YtfcghhpbjnlldaaSlots14
namespace Go.Proofs.Ytfcghhpbjnlldaa
open Go.ChangeShapes Go.WideShapes Go.RowKit Words

set_option maxRecDepth 100000 in
set_option maxHeartbeats 4000000 in
theorem walkSlotsCalls {H : Type} {enc : TypeId × Value → H} (W : World) (base : Nat) {v0 v1 v2 v3 v4 : Value} {d0 d1 d2 d3 d4 : DataW H} {p0 p1 p2 p3 p4 : List MemPlace}
    (o0 : Value.okWide Try.prog W .any base 24 v0) (h0 : DataW.Trod enc Try.prog W 0 (fun _ => true) true 24 v0 d0 p0)
    (o1 : Value.okWide Try.prog W .any base 28 v1) (h1 : DataW.Trod enc Try.prog W 0 (fun _ => true) true 28 v1 d1 p1)
    (o2 : Value.okWide Try.prog W .any base 3 v2) (h2 : DataW.Trod enc Try.prog W 0 (fun _ => true) true 3 v2 d2 p2)
    (o3 : Value.okWide Try.prog W .any base 3 v3) (h3 : DataW.Trod enc Try.prog W 0 (fun _ => true) true 3 v3 d3 p3)
    (o4 : Value.okWide Try.prog W .any base 35 v4) (h4 : DataW.Trod enc Try.prog W 0 (fun _ => true) true 35 v4 d4 p4) :
    Calls Try.prog 6 #[v0, v1, v2, v3, v4] W fun e w' => e = .returned (.bool true) ∧ Below W.heap.size W w' := by
  obtain ⟨A, n, c, l, rfl, h, -⟩ := open_tab o0 h0
  obtain ⟨ref, rfl⟩ := open_word Try.underlying28 o1 h1
  obtain ⟨i, rfl, -, -⟩ := open_i64 Try.underlying3 o2 h2
  obtain ⟨g, rfl, -, -⟩ := open_i64 Try.underlying3 o3 h3
  obtain ⟨Ar, m, cr, rs, rfl, hr⟩ := open_words Try.underlying35 Try.underlying28 (by kernel_rfl) o4 h4
  clear h0 o0 h1 o1 h2 o2 h3 o3 h4 o4
  have bT := Box.mkNew h
  have hB : Below W.heap.size W (W.alloc (.cells #[.slice A n c] 24)) := tab_alloc W A n c
  have hR := hr.belowU hB
  have qT := bT.cell
  obtain ⟨w, hw⟩ : ∃ w, W.alloc (.cells #[.slice A n c] 24) = w := ⟨_, rfl⟩
  rw [hw] at bT hB hR qT
  by_cases hl : n ≤ 200
  · have HL := Lib.hid (decide_eq_true hl)
    have hn : n ≤ 1000000 := by omega
    have HN := Lib.hid hn
    clear hl hn
    by_cases hm : m ≤ 200
    · have hmd : decide ((200 : Int) < (m : Int)) = false := by simp; omega
      clear hm
      obtain ⟨⟨N1, N2, N3, N4⟩, hN⟩ : ∃ z, newW l ref = z := ⟨_, rfl⟩
      obtain ⟨⟨G1, G2⟩, hG⟩ : ∃ z, getW l i g = z := ⟨_, rfl⟩
      obtain ⟨⟨S1, S2⟩, hS⟩ : ∃ z, setW l i g ref = z := ⟨_, rfl⟩
      obtain ⟨⟨D1, D2⟩, hD⟩ : ∃ z, delW l i g = z := ⟨_, rfl⟩
      obtain ⟨⟨M1, M2⟩, hM⟩ : ∃ z, moveW l rs = z := ⟨_, rfl⟩
      have HNW := Lib.hid hN
      have HGW := Lib.hid hG
      have HSW := Lib.hid hS
      have HDW := Lib.hid hD
      have HMW := Lib.hid hM
      clear hN hG hS hD hM h hr
      have hW1 : W.heap.size < w.heap.size := by rw [← hw]; simp
      go_enter Try.func6, Try.ntmps6
      go_wp2_with fail
      clear hw
      refine (light_any _ _ _ _).mono ?_
      rintro e w0 ⟨rfl, hb⟩
      rw [HL.out]
      have bT := bT.below hb
      have hR := hR.belowU hb
      have hsz0 := hb.size
      have hB := keep_below hb hB
      clear hb qT
      have qT := bT.cell
      go_wp2_with fail
      refine (new_any A n c l ref _ bT.reads HN.out).mono ?_
      rw [HNW.out]
      rintro e w1 ⟨A1, k1, rfl, hr1, hb⟩
      dsimp only at hr1 ⊢
      have bT := (bT.below hb).alloc (.cells #[.slice A1 N1.length k1] 24)
      have bA := Box.mkNew hr1
      have hR := (hR.belowU hb).belowU (tab_alloc w1 A1 N1.length k1)
      have hsz1 := hb.size
      have hB := keep_alloc (keep_below hb hB) (.cells #[.slice A1 N1.length k1] 24)
      clear hb qT hr1
      have qT := bT.cell
      obtain ⟨a, ha⟩ : ∃ a, w1.heap.size = a := ⟨_, rfl⟩
      go_wp2_with fail
      refine (rnew_any A n c l ref _ bT.reads HN.out).mono ?_
      rw [HNW.out]
      rintro e w2 ⟨A2, k2, rfl, hr2, hb⟩
      dsimp only at hr2 ⊢
      have bT := (bT.below hb).alloc (.cells #[.slice A2 N1.length k2] 24)
      have bA := (bA.below hb).alloc (.cells #[.slice A2 N1.length k2] 24)
      have bB := Box.mkNew hr2
      have hR := (hR.belowU hb).belowU (tab_alloc w2 A2 N1.length k2)
      have hsz2 := hb.size
      have hB := keep_alloc (keep_below hb hB) (.cells #[.slice A2 N1.length k2] 24)
      rw [ha] at bA
      obtain ⟨b, hbb⟩ : ∃ b, w2.heap.size = b := ⟨_, rfl⟩
      rw [hbb] at bB
      have hab : a < b := by simp at hsz2; omega
      have hWa : W.heap.size < a := by omega
      clear hb qT hr2 hsz2
      have qT := bT.cell
      have qA := bA.cell
      have qB := bB.cell
      have hN4 : (N4 != N4) = false := by simp
      have hN2 : (N2 != N2) = false := by simp
      have hN3 : (N3 != N3) = false := by simp
      go_wp2_with fail
      refine (same_any _ _ _ _ _ _ N1 N1 _ bA.reads bB.reads).mono ?_
      rw [decide_eq_true rfl]
      rintro e w3 ⟨rfl, hb⟩
      have bT := bT.below hb
      have bA := bA.below hb
      have bB := bB.below hb
      have hR := hR.belowU hb
      have hB := keep_below hb hB
      clear hb qT qA qB
      have qT := bT.cell
      have qA := bA.cell
      have qB := bB.cell
      have fA := bA.free
      have fB := bB.free
      go_wp2_with fail
      refine (get_any A n c l i g _ bT.reads).mono ?_
      rw [HGW.out]
      rintro e w4 ⟨rfl, hb⟩
      unfold retW
      have bT := bT.below hb
      have bA := bA.below hb
      have bB := bB.below hb
      have hR := hR.belowU hb
      have hB := keep_below hb hB
      clear hb qT qA qB fA fB
      have qT := bT.cell
      have qA := bA.cell
      have qB := bB.cell
      have fA := bA.free
      have fB := bB.free
      go_wp2_with fail
      refine (rget_any A n c l i g _ bT.reads).mono ?_
      rw [HGW.out]
      rintro e w5 ⟨rfl, hb⟩
      unfold retW
      have bT := bT.below hb
      have bA := bA.below hb
      have bB := bB.below hb
      have hR := hR.belowU hb
      have hB := keep_below hb hB
      clear hb qT qA qB fA fB
      have qT := bT.cell
      have qA := bA.cell
      have qB := bB.cell
      have fA := bA.free
      have fB := bB.free
      go_wp2_with fail
      refine (set_any A n c l i g ref _ bT.reads HN.out).mono ?_
      rw [HSW.out]
      rintro e w6 ⟨A6, k6, rfl, hr6, hb⟩
      dsimp only at hr6 ⊢
      have bT := (bT.below hb).far (bA.below hb) (by omega) (.slice A6 S1.length k6)
      have bB := (bB.below hb).far (bA.below hb) (by omega) (.slice A6 S1.length k6)
      have hR := (hR.belowU hb).apartW (bA.below hb) (.slice A6 S1.length k6)
      have hB := (keep_below hb hB).setCell (p := ⟨a, 0, none⟩) (by show W.heap.size ≤ a; omega) (.slice A6 S1.length k6)
      have bAo := bA
      have bA := (bA.below hb).put hr6
      clear qT qA qB fA fB
      have qT := bT.cell
      have qA := bA.cell
      have qB := bB.cell
      have fA := bA.free
      have fB := bB.free
      have qAo : w6.cell? ⟨a, 0, none⟩ = _ := (bAo.below hb).cell
      have fAo := (bAo.below hb).free
      clear hb hr6 bAo
      go_wp2_with fail
      refine (rset_any A n c l i g ref _ bT.reads HN.out).mono ?_
      rw [HSW.out]
      rintro e w7 ⟨A7, k7, rfl, hr7, hb⟩
      dsimp only at hr7 ⊢
      have bT := (bT.below hb).far (bB.below hb) (by omega) (.slice A7 S1.length k7)
      have bA := (bA.below hb).far (bB.below hb) (by omega) (.slice A7 S1.length k7)
      have hR := (hR.belowU hb).apartW (bB.below hb) (.slice A7 S1.length k7)
      have hB := (keep_below hb hB).setCell (p := ⟨b, 0, none⟩) (by show W.heap.size ≤ b; omega) (.slice A7 S1.length k7)
      have bBo := bB
      have bB := (bB.below hb).put hr7
      clear qT qA qB fA fB
      have qT := bT.cell
      have qA := bA.cell
      have qB := bB.cell
      have fA := bA.free
      have fB := bB.free
      have qBo : w7.cell? ⟨b, 0, none⟩ = _ := (bBo.below hb).cell
      have fBo := (bBo.below hb).free
      clear hb hr7 bBo
      go_wp2_with fail
      refine (same_any _ _ _ _ _ _ S1 S1 _ bA.reads bB.reads).mono ?_
      rw [decide_eq_true rfl]
      rintro e w8 ⟨rfl, hb⟩
      have bT := bT.below hb
      have bA := bA.below hb
      have bB := bB.below hb
      have hR := hR.belowU hb
      have hB := keep_below hb hB
      clear hb qT qA qB
      have qT := bT.cell
      have qA := bA.cell
      have qB := bB.cell
      have fA := bA.free
      have fB := bB.free
      go_wp2_with fail
      refine (delete_any A n c l i g _ bT.reads HN.out).mono ?_
      rw [HDW.out]
      rintro e w9 ⟨A9, k9, rfl, hr9, hb⟩
      dsimp only at hr9 ⊢
      have bT := (bT.below hb).far (bA.below hb) (by omega) (.slice A9 D1.length k9)
      have bB := (bB.below hb).far (bA.below hb) (by omega) (.slice A9 D1.length k9)
      have hR := (hR.belowU hb).apartW (bA.below hb) (.slice A9 D1.length k9)
      have hB := (keep_below hb hB).setCell (p := ⟨a, 0, none⟩) (by show W.heap.size ≤ a; omega) (.slice A9 D1.length k9)
      have bAo := bA
      have bA := (bA.below hb).put hr9
      clear qT qA qB fA fB
      have qT := bT.cell
      have qA := bA.cell
      have qB := bB.cell
      have fA := bA.free
      have fB := bB.free
      have qAo : w9.cell? ⟨a, 0, none⟩ = _ := (bAo.below hb).cell
      have fAo := (bAo.below hb).free
      clear hb hr9 bAo
      go_wp2_with fail
      refine (rdelete_any A n c l i g _ bT.reads HN.out).mono ?_
      rw [HDW.out]
      rintro e w10 ⟨A10, k10, rfl, hr10, hb⟩
      dsimp only at hr10 ⊢
      have bT := (bT.below hb).far (bB.below hb) (by omega) (.slice A10 D1.length k10)
      have bA := (bA.below hb).far (bB.below hb) (by omega) (.slice A10 D1.length k10)
      have hR := (hR.belowU hb).apartW (bB.below hb) (.slice A10 D1.length k10)
      have hB := (keep_below hb hB).setCell (p := ⟨b, 0, none⟩) (by show W.heap.size ≤ b; omega) (.slice A10 D1.length k10)
      have bBo := bB
      have bB := (bB.below hb).put hr10
      clear qT qA qB fA fB
      have qT := bT.cell
      have qA := bA.cell
      have qB := bB.cell
      have fA := bA.free
      have fB := bB.free
      have qBo : w10.cell? ⟨b, 0, none⟩ = _ := (bBo.below hb).cell
      have fBo := (bBo.below hb).free
      clear hb hr10 bBo
      go_wp2_with fail
      refine (move_any A n c l Ar m cr rs _ bT.reads HN.out hR).mono ?_
      rw [HMW.out]
      rintro e w11 ⟨A11, k11, rfl, hr11, hb⟩
      dsimp only at hr11 ⊢
      have bT := (bT.below hb).alloc (.cells #[.slice A11 M1.length k11] 24)
      have bA := (bA.below hb).alloc (.cells #[.slice A11 M1.length k11] 24)
      have bB := (bB.below hb).alloc (.cells #[.slice A11 M1.length k11] 24)
      have bC := Box.mkNew hr11
      have hR := (hR.belowU hb).belowU (tab_alloc w11 A11 M1.length k11)
      have hB := keep_alloc (keep_below hb hB) (.cells #[.slice A11 M1.length k11] 24)
      clear hb qT qA qB fA fB hr11
      have qT := bT.cell
      obtain ⟨cc, hcc⟩ : ∃ cc, w11.heap.size = cc := ⟨_, rfl⟩
      rw [hcc] at bC
      go_wp2_with fail
      refine (rmove_any A n c l Ar m cr rs _ bT.reads HN.out hR).mono ?_
      rw [HMW.out]
      rintro e w12 ⟨A12, k12, rfl, hr12, hb⟩
      dsimp only at hr12 ⊢
      have bA := (bA.below hb).alloc (.cells #[.slice A12 M1.length k12] 24)
      have bB := (bB.below hb).alloc (.cells #[.slice A12 M1.length k12] 24)
      have bC := (bC.below hb).alloc (.cells #[.slice A12 M1.length k12] 24)
      have bD := Box.mkNew hr12
      have hB := keep_alloc (keep_below hb hB) (.cells #[.slice A12 M1.length k12] 24)
      clear hb qT hr12 bT hR
      obtain ⟨dd, hdd⟩ : ∃ dd, w12.heap.size = dd := ⟨_, rfl⟩
      rw [hdd] at bD
      have hD2 : (D2 == D2) = true := by simp
      have hM2 : (M2 == M2) = true := by simp
      go_wp2_with fail
      refine (awake_any _).mono ?_
      rintro e w13 ⟨rfl, hb⟩
      have bA := bA.below hb
      have bB := bB.below hb
      have bC := bC.below hb
      have bD := bD.below hb
      have hB := keep_below hb hB
      clear hb
      have qA := bA.cell
      have qB := bB.cell
      go_wp2_with fail
      refine (same_any _ _ _ _ _ _ D1 D1 _ bA.reads bB.reads).mono ?_
      rw [decide_eq_true rfl]
      rintro e w14 ⟨rfl, hb⟩
      have bC := bC.below hb
      have bD := bD.below hb
      have hB := keep_below hb hB
      clear hb qA qB bA bB
      have qC := bC.cell
      have qD := bD.cell
      go_wp2_with fail
      refine (same_any _ _ _ _ _ _ M1 M1 _ bC.reads bD.reads).mono ?_
      rw [decide_eq_true rfl]
      rintro e w15 ⟨rfl, hb⟩
      have hB := keep_below hb hB
      go_wp2_with fail
      go_ret
      exact ⟨rfl, hB⟩
    · have hmd : decide ((200 : Int) < (m : Int)) = true := by simp; omega
      clear hm h hr
      go_enter Try.func6, Try.ntmps6
      go_wp2_with fail
      clear hw bT hR
      refine (light_any _ _ _ _).mono ?_
      rintro e w0 ⟨rfl, hb⟩
      rw [HL.out]
      go_wp2_with fail
      go_ret
      exact ⟨rfl, keep_below hb hB⟩
  · have HL := Lib.hid (decide_eq_false hl)
    clear hl h hr
    go_enter Try.func6, Try.ntmps6
    go_wp2_with fail
    clear hw bT hR
    refine (light_any _ _ _ _).mono ?_
    rintro e w0 ⟨rfl, hb⟩
    rw [HL.out]
    go_wp2_with fail
    go_ret
    exact ⟨rfl, keep_below hb hB⟩
end Go.Proofs.Ytfcghhpbjnlldaa

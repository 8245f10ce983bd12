/- The walk of ScopeHandles. Printed by mk_handles.py. -/
import Derived.Test.YtmcdhpbkhchpeaaScopeVar
import Derived.Test.YtmcdhpbkhchpeaaScope16
import Derived.Test.YtmcdhpbkhchpeaaScope17
import Derived.Test.YtmcdhpbkhchpeaaScope18
import Derived.Test.YtmcdhpbkhchpeaaScope21
namespace Go.Proofs.Ytmcdhpbkhchpeaa
open Go.ChangeShapes Go.WideShapes Go.RowKit Words

theorem neqI (x : Int) : (x != x) = false := by simp

set_option linter.unusedSimpArgs false in
set_option maxRecDepth 100000 in
set_option maxHeartbeats 8000000 in
theorem walkScopeHandles {H : Type} {enc : TypeId × Value → H} (W : World) (base : Nat) {v0 v1 v2 v3 v4 : Value} {d0 d1 d2 d3 d4 : DataW H} {p0 p1 p2 p3 p4 : List MemPlace}
    (o0 : Value.okWide Try.prog W .any base 26 v0) (h0 : DataW.Trod enc Try.prog W 0 (fun _ => true) true 26 v0 d0 p0)
    (o1 : Value.okWide Try.prog W .any base 32 v1) (h1 : DataW.Trod enc Try.prog W 0 (fun _ => true) true 32 v1 d1 p1)
    (o2 : Value.okWide Try.prog W .any base 3 v2) (h2 : DataW.Trod enc Try.prog W 0 (fun _ => true) true 3 v2 d2 p2)
    (o3 : Value.okWide Try.prog W .any base 3 v3) (h3 : DataW.Trod enc Try.prog W 0 (fun _ => true) true 3 v3 d3 p3)
    (o4 : Value.okWide Try.prog W .any base 38 v4) (h4 : DataW.Trod enc Try.prog W 0 (fun _ => true) true 38 v4 d4 p4) :
    Calls Try.prog 6 #[v0, v1, v2, v3, v4] W fun e w' => e = .returned (.bool true) ∧ Below W.heap.size W w' := by
  obtain ⟨As, ns, cs, Ap, np, cp, Ai, ni, ci, S, P, I, rfl, h⟩ := open_loc o0 h0
  obtain ⟨r, rfl⟩ := open_word Try.underlying32 o1 h1
  obtain ⟨i, rfl, hi0, hi1⟩ := open_i64 Try.underlying3 o2 h2
  obtain ⟨t, rfl, ht0, ht1⟩ := open_i64 Try.underlying3 o3 h3
  obtain ⟨Ar, m, cr, rs, rfl, hr⟩ := open_words Try.underlying38 Try.underlying32 (by kernel_rfl) o4 h4
  clear h0 o0 h1 o1 h2 o2 h3 o3 h4 o4 hi0 hi1 ht0 ht1
  have hW := loc_alloc W 26 (.slice As ns cs) (.slice Ap np cp) (.slice Ai ni ci)
  have B0 := Blk.new W #[.slice As ns cs, .slice Ap np cp, .slice Ai ni ci] 26
  have hhW := h.belowU hW
  have hrW := hr.belowU hW
  clear h hr
  obtain ⟨lt, hlt⟩ : ∃ lt, decide (ns ≤ 200 ∧ np ≤ 100 ∧ ni ≤ 5000) = lt := ⟨_, rfl⟩
  cases lt with
  | false =>
    have HL := Lib.hid hlt
    clear hlt
    go_enter Try.func6, Try.ntmps6
    go_wp2_with fail
    refine (light_any As ns cs Ap np cp Ai ni ci _).mono ?_
    rw [HL.out]
    rintro e w0 ⟨rfl, hb0⟩
    go_wp2_with fail
    go_ret
    exact ⟨rfl, keep_below hb0 hW⟩
  | true =>
  have hls := of_decide_eq_true hlt
  have HL := Lib.hid hlt
  have hN : ns ≤ 1000000 ∧ np ≤ 1000000 ∧ ni ≤ 1000000 := by omega
  have HN := Lib.hid hN
  clear hlt hN hls
  by_cases hm : 200 < m
  · have em : decide ((200 : Int) < (m : Int)) = true := decide_eq_true (by omega)
    have em2 : decide (200 < m) = true := decide_eq_true hm
    go_enter Try.func6, Try.ntmps6
    go_wp2_with fail
    refine (light_any As ns cs Ap np cp Ai ni ci _).mono ?_
    rw [HL.out]
    rintro e w0 ⟨rfl, hb0⟩
    go_wp2_with fail
    go_ret
    exact ⟨rfl, keep_below hb0 hW⟩
  have em : decide ((200 : Int) < (m : Int)) = false := decide_eq_false (by omega)
  have em2 : decide (200 < m) = false := decide_eq_false hm
  clear hm
  obtain ⟨q, hq⟩ : ∃ q, newL ⟨S, P, I⟩ r = q := ⟨_, rfl⟩
  have HQ := Lib.hid hq
  obtain ⟨q2, hq2⟩ : ∃ q2, getL ⟨S, P, I⟩ i t = q2 := ⟨_, rfl⟩
  have HQ2 := Lib.hid hq2
  obtain ⟨q3, hq3⟩ : ∃ q3, delL ⟨S, P, I⟩ i t = q3 := ⟨_, rfl⟩
  have HQ3 := Lib.hid hq3
  obtain ⟨q4, hq4⟩ : ∃ q4, moveL ⟨S, P, I⟩ rs = q4 := ⟨_, rfl⟩
  have HQ4 := Lib.hid hq4
  have n1 := neqI q.2.1
  have n2 := neqI q.2.2.1
  have n3 := neqI q.2.2.2
  have n4 := neqI (U q2.1)
  have n5 := neqI q2.2
  have n6 := neqI q3.2
  have n7 : (q4.2 == q4.2) = true := by simp
  clear hq hq2 hq3 hq4
  go_enter Try.func6, Try.ntmps6
  go_wp2_with fail
  refine (light_any As ns cs Ap np cp Ai ni ci _).mono ?_
  rw [HL.out]
  rintro e w1 ⟨rfl, hb1⟩
  have B1 := B0.below hb1
  have hh1 := hhW.belowU hb1
  have hr1 := hrW.belowU hb1
  have HB1 := keep_below hb1 hW
  have hgW : W.heap.size < w1.heap.size := by have := hb1.size; simp at this; omega
  clear B0 hhW hrW hb1 hW
  have b0 := B1.cell 0 _ rfl
  have b1 := B1.cell 1 _ rfl
  have b2 := B1.cell 2 _ rfl
  go_wp2_with fail
  refine (new_any As ns cs Ap np cp Ai ni ci S P I r _ hh1 HN.out.1 HN.out.2.1 HN.out.2.2).mono ?_
  rw [HQ.out]
  rintro e w2 ⟨A1, c1, A2, c2, A3, c3, rfl, hown, hb2⟩
  have La := Loc.mkNew (x := q.1) hown.rd
  have hb2' := keep_alloc hb2 (.cells #[.slice A1 q.1.s.length c1, .slice A2 q.1.p.length c2, .slice A3 q.1.i.length c3] 26)
  have B2 := B1.below hb2'
  have hh2 := hh1.belowU hb2'
  have hr2 := hr1.belowU hb2'
  have HB2 := keep_below hb2' HB1
  have hgA : W.heap.size < w2.heap.size := by have := hb2.size; omega
  have hsA : w2.heap.size < (w2.alloc (.cells #[.slice A1 q.1.s.length c1, .slice A2 q.1.p.length c2, .slice A3 q.1.i.length c3] 26)).heap.size := by simp
  go_upto_region 4 with fail
  clear b0 b1 b2 hown hb2 B1 hh1 hr1 HB1 hb2'
  obtain ⟨w3, hw3⟩ : ∃ w3, w2.alloc (.cells #[.slice A1 q.1.s.length c1, .slice A2 q.1.p.length c2, .slice A3 q.1.i.length c3] 26) = w3 := ⟨_, rfl⟩
  obtain ⟨dA, hdA⟩ : ∃ dA, w2.heap.size = dA := ⟨_, rfl⟩
  rw [hw3, hdA] at La hsA
  rw [hw3] at B2 hh2 hr2 HB2
  rw [hdA] at hgA
  rw [hw3, hdA]
  clear hw3 hdA
  have b0 := B2.cell 0 _ rfl
  have b1 := B2.cell 1 _ rfl
  have b2 := B2.cell 2 _ rfl
  go_wp2_with fail
  refine (rnew_any As ns cs Ap np cp Ai ni ci S P I r _ hh2 HN.out.1 HN.out.2.2).mono ?_
  rw [HQ.out]
  rintro e w4 ⟨D1, e1, D2, e2, D3, e3, rfl, hown, hb4⟩
  have Lb := Loc.mkNew (x := q.1) hown
  have hb4' := keep_alloc hb4 (.cells #[.slice D1 q.1.s.length e1, .slice D2 q.1.p.length e2, .slice D3 q.1.i.length e3] 26)
  have B4 := B2.below hb4'
  have hh4 := hh2.belowU hb4'
  have hr4 := hr2.belowU hb4'
  have HB4 := keep_below hb4' HB2
  have La4 := La.belowU hb4'
  have hgB : dA < w4.heap.size := by have := hb4.size; omega
  go_upto_region 5 with fail
  clear b0 b1 b2 hown hb4 B2 hh2 hr2 HB2 hb4' La hsA
  obtain ⟨w5, hw5⟩ : ∃ w5, w4.alloc (.cells #[.slice D1 q.1.s.length e1, .slice D2 q.1.p.length e2, .slice D3 q.1.i.length e3] 26) = w5 := ⟨_, rfl⟩
  obtain ⟨dB, hdB⟩ : ∃ dB, w4.heap.size = dB := ⟨_, rfl⟩
  rw [hw5, hdB] at Lb
  rw [hw5] at B4 hh4 hr4 HB4 La4
  rw [hdB] at hgB
  rw [hw5, hdB]
  clear hw5 hdB
  have la0 := La4.box.cell 0 _ rfl
  have la1 := La4.box.cell 1 _ rfl
  have la2 := La4.box.cell 2 _ rfl
  have lb0 := Lb.box.cell 0 _ rfl
  have lb1 := Lb.box.cell 1 _ rfl
  have lb2 := Lb.box.cell 2 _ rfl
  go_wp2_with fail
  refine (rsame_eq A1 _ c1 A2 _ c2 A3 _ c3 D1 e1 D2 e2 D3 e3 _ _ _ _ La4.rd Lb.rd).mono ?_
  rintro e w6 ⟨rfl, hb6⟩
  have B6 := B4.below hb6
  have hh6 := hh4.belowU hb6
  have hr6 := hr4.belowU hb6
  have HB6 := keep_below hb6 HB4
  have La6 := La4.belowU hb6
  have Lb6 := Lb.belowU hb6
  clear la0 la1 la2 lb0 lb1 lb2 B4 hh4 hr4 HB4 La4 Lb hb6
  have b0 := B6.cell 0 _ rfl
  have b1 := B6.cell 1 _ rfl
  have b2 := B6.cell 2 _ rfl
  go_wp2_with fail
  refine (get_any As ns cs Ap np cp Ai ni ci S P I i t _ hh6).mono ?_
  rw [HQ2.out]
  rintro e w7 ⟨rfl, hb7⟩
  unfold retG
  have B7 := B6.below hb7
  have hh7 := hh6.belowU hb7
  have hr7 := hr6.belowU hb7
  have HB7 := keep_below hb7 HB6
  have La7 := La6.belowU hb7
  have Lb7 := Lb6.belowU hb7
  clear b0 b1 b2 B6 hh6 hr6 HB6 La6 Lb6 hb7
  have b0 := B7.cell 0 _ rfl
  have b1 := B7.cell 1 _ rfl
  have b2 := B7.cell 2 _ rfl
  go_wp2_with fail
  refine (rget_any As ns cs Ap np cp Ai ni ci S P I i t _ hh7).mono ?_
  rw [HQ2.out]
  rintro e w8 ⟨rfl, hb8⟩
  unfold retG
  have B8 := B7.below hb8
  have hh8 := hh7.belowU hb8
  have hr8 := hr7.belowU hb8
  have HB8 := keep_below hb8 HB7
  have La8 := La7.belowU hb8
  have Lb8 := Lb7.belowU hb8
  clear b0 b1 b2 B7 hh7 hr7 HB7 La7 Lb7 hb8
  have b0 := B8.cell 0 _ rfl
  have b1 := B8.cell 1 _ rfl
  have b2 := B8.cell 2 _ rfl
  go_wp2_with fail
  refine (delete_any As ns cs Ap np cp Ai ni ci S P I i t _ hh8 HN.out.1 HN.out.2.1 HN.out.2.2).mono ?_
  rw [HQ3.out]
  rintro e w9 ⟨F1, f1, F2, f2, F3, f3, rfl, hown, hb9⟩
  have Lx := La8.belowU hb9
  have Ly := Lb8.belowU hb9
  have fx := Lx.box.free
  have s0 := Lx.box.cell 0 _ rfl
  have s1 := Lx.box.cell 1 _ rfl
  have s2 := Lx.box.cell 2 _ rfl
  have hrd := hown.rd
  have La9 := Lx.put3 (y := q3.1) hrd
  have Lb9 := Ly.far3 Lx (show dB ≠ dA by omega) (q1 := F1) (m1 := q3.1.s.length) (k1 := f1) (q2 := F2) (m2 := q3.1.p.length) (k2 := f2) (q3 := F3) (m3 := q3.1.i.length) (k3 := f3)
  have B9 := (B8.below hb9).far3 (show W.heap.size ≠ dA by omega) (.slice F1 q3.1.s.length f1) (.slice F2 q3.1.p.length f2) (.slice F3 q3.1.i.length f3)
  have hh9 := (hh8.belowU hb9).box3 Lx.box (q1 := F1) (m1 := q3.1.s.length) (k1 := f1) (q2 := F2) (m2 := q3.1.p.length) (k2 := f2) (q3 := F3) (m3 := q3.1.i.length) (k3 := f3)
  have hr9 := (hr8.belowU hb9).box3U (by omega) Lx.box (wd_noSlice rs) (q1 := F1) (m1 := q3.1.s.length) (k1 := f1) (q2 := F2) (m2 := q3.1.p.length) (k2 := f2) (q3 := F3) (m3 := q3.1.i.length) (k3 := f3)
  have HB9 := keep_put3 (keep_below hb9 HB8) (show W.heap.size ≤ dA by omega) (.slice F1 q3.1.s.length f1) (.slice F2 q3.1.p.length f2) (.slice F3 q3.1.i.length f3)
  go_upto_region 10 with fail
  clear b0 b1 b2 hown hrd Lx Ly fx s0 s1 s2 hb9 B8 hh8 hr8 HB8 La8 Lb8
  obtain ⟨u9, hu9⟩ : ∃ u9, (((w9.setCell ⟨dA, 0, none⟩ (.slice F1 q3.1.s.length f1)).setCell ⟨dA, 1, none⟩ (.slice F2 q3.1.p.length f2)).setCell ⟨dA, 2, none⟩ (.slice F3 q3.1.i.length f3)) = u9 := ⟨_, rfl⟩
  rw [hu9] at La9 Lb9 B9 hh9 hr9 HB9 ⊢
  clear hu9
  have b0 := B9.cell 0 _ rfl
  have b1 := B9.cell 1 _ rfl
  have b2 := B9.cell 2 _ rfl
  go_wp2_with fail
  refine (rdelete_any As ns cs Ap np cp Ai ni ci S P I i t _ hh9 HN.out.1).mono ?_
  rw [HQ3.out]
  rintro e w10 ⟨G1, g1, G2, g2, G3, g3, rfl, hown, hb10⟩
  have Lx := Lb9.belowU hb10
  have Ly := La9.belowU hb10
  have fx := Lx.box.free
  have s0 := Lx.box.cell 0 _ rfl
  have s1 := Lx.box.cell 1 _ rfl
  have s2 := Lx.box.cell 2 _ rfl
  have hrd := hown
  have Lb10 := Lx.put3 (y := q3.1) hrd
  have La10 := Ly.far3 Lx (show dA ≠ dB by omega) (q1 := G1) (m1 := q3.1.s.length) (k1 := g1) (q2 := G2) (m2 := q3.1.p.length) (k2 := g2) (q3 := G3) (m3 := q3.1.i.length) (k3 := g3)
  have B10 := (B9.below hb10).far3 (show W.heap.size ≠ dB by omega) (.slice G1 q3.1.s.length g1) (.slice G2 q3.1.p.length g2) (.slice G3 q3.1.i.length g3)
  have hh10 := (hh9.belowU hb10).box3 Lx.box (q1 := G1) (m1 := q3.1.s.length) (k1 := g1) (q2 := G2) (m2 := q3.1.p.length) (k2 := g2) (q3 := G3) (m3 := q3.1.i.length) (k3 := g3)
  have hr10 := (hr9.belowU hb10).box3U (by omega) Lx.box (wd_noSlice rs) (q1 := G1) (m1 := q3.1.s.length) (k1 := g1) (q2 := G2) (m2 := q3.1.p.length) (k2 := g2) (q3 := G3) (m3 := q3.1.i.length) (k3 := g3)
  have HB10 := keep_put3 (keep_below hb10 HB9) (show W.heap.size ≤ dB by omega) (.slice G1 q3.1.s.length g1) (.slice G2 q3.1.p.length g2) (.slice G3 q3.1.i.length g3)
  go_upto_region 11 with fail
  clear b0 b1 b2 hown hrd Lx Ly fx s0 s1 s2 hb10 B9 hh9 hr9 HB9 Lb9 La9
  obtain ⟨u10, hu10⟩ : ∃ u10, (((w10.setCell ⟨dB, 0, none⟩ (.slice G1 q3.1.s.length g1)).setCell ⟨dB, 1, none⟩ (.slice G2 q3.1.p.length g2)).setCell ⟨dB, 2, none⟩ (.slice G3 q3.1.i.length g3)) = u10 := ⟨_, rfl⟩
  rw [hu10] at Lb10 La10 B10 hh10 hr10 HB10 ⊢
  clear hu10
  have la0 := La10.box.cell 0 _ rfl
  have la1 := La10.box.cell 1 _ rfl
  have la2 := La10.box.cell 2 _ rfl
  have lb0 := Lb10.box.cell 0 _ rfl
  have lb1 := Lb10.box.cell 1 _ rfl
  have lb2 := Lb10.box.cell 2 _ rfl
  go_wp2_with fail
  refine (rsame_eq F1 _ f1 F2 _ f2 F3 _ f3 G1 g1 G2 g2 G3 g3 _ _ _ _ La10.rd Lb10.rd).mono ?_
  rintro e w11 ⟨rfl, hb11⟩
  have B11 := B10.below hb11
  have hh11 := hh10.belowU hb11
  have hr11 := hr10.belowU hb11
  have HB11 := keep_below hb11 HB10
  have La11 := La10.belowU hb11
  have Lb11 := Lb10.belowU hb11
  clear la0 la1 la2 lb0 lb1 lb2 B10 hh10 hr10 HB10 La10 Lb10 hb11
  have b0 := B11.cell 0 _ rfl
  have b1 := B11.cell 1 _ rfl
  have b2 := B11.cell 2 _ rfl
  go_wp2_with fail
  refine (move_any As ns cs Ap np cp Ai ni ci S P I Ar m cr rs _ hh11 HN.out.1 HN.out.2.1 HN.out.2.2 hr11).mono ?_
  rw [HQ4.out]
  rintro e w12 ⟨M1, k1, M2, k2, M3, k3, rfl, hown, hb12⟩
  have Lx := La11.belowU hb12
  have Ly := Lb11.belowU hb12
  have fx := Lx.box.free
  have s0 := Lx.box.cell 0 _ rfl
  have s1 := Lx.box.cell 1 _ rfl
  have s2 := Lx.box.cell 2 _ rfl
  have hrd := hown
  have La12 := Lx.put3 (y := q4.1) hrd
  have Lb12 := Ly.far3 Lx (show dB ≠ dA by omega) (q1 := M1) (m1 := q4.1.s.length) (k1 := k1) (q2 := M2) (m2 := q4.1.p.length) (k2 := k2) (q3 := M3) (m3 := q4.1.i.length) (k3 := k3)
  have B12 := (B11.below hb12).far3 (show W.heap.size ≠ dA by omega) (.slice M1 q4.1.s.length k1) (.slice M2 q4.1.p.length k2) (.slice M3 q4.1.i.length k3)
  have hh12 := (hh11.belowU hb12).box3 Lx.box (q1 := M1) (m1 := q4.1.s.length) (k1 := k1) (q2 := M2) (m2 := q4.1.p.length) (k2 := k2) (q3 := M3) (m3 := q4.1.i.length) (k3 := k3)
  have hr12 := (hr11.belowU hb12).box3U (by omega) Lx.box (wd_noSlice rs) (q1 := M1) (m1 := q4.1.s.length) (k1 := k1) (q2 := M2) (m2 := q4.1.p.length) (k2 := k2) (q3 := M3) (m3 := q4.1.i.length) (k3 := k3)
  have HB12 := keep_put3 (keep_below hb12 HB11) (show W.heap.size ≤ dA by omega) (.slice M1 q4.1.s.length k1) (.slice M2 q4.1.p.length k2) (.slice M3 q4.1.i.length k3)
  go_upto_region 14 with fail
  clear b0 b1 b2 hown hrd Lx Ly fx s0 s1 s2 hb12 B11 hh11 hr11 HB11 La11 Lb11
  obtain ⟨u12, hu12⟩ : ∃ u12, (((w12.setCell ⟨dA, 0, none⟩ (.slice M1 q4.1.s.length k1)).setCell ⟨dA, 1, none⟩ (.slice M2 q4.1.p.length k2)).setCell ⟨dA, 2, none⟩ (.slice M3 q4.1.i.length k3)) = u12 := ⟨_, rfl⟩
  rw [hu12] at La12 Lb12 B12 hh12 hr12 HB12 ⊢
  clear hu12
  have b0 := B12.cell 0 _ rfl
  have b1 := B12.cell 1 _ rfl
  have b2 := B12.cell 2 _ rfl
  go_wp2_with fail
  refine (rmove_any As ns cs Ap np cp Ai ni ci S P I Ar m cr rs _ hh12 HN.out.1 hr12).mono ?_
  rw [HQ4.out]
  rintro e w13 ⟨N1, j1, N2, j2, N3, j3, rfl, hown, hb13⟩
  have Lx := Lb12.belowU hb13
  have Ly := La12.belowU hb13
  have fx := Lx.box.free
  have s0 := Lx.box.cell 0 _ rfl
  have s1 := Lx.box.cell 1 _ rfl
  have s2 := Lx.box.cell 2 _ rfl
  have hrd := hown
  have Lb13 := Lx.put3 (y := q4.1) hrd
  have La13 := Ly.far3 Lx (show dA ≠ dB by omega) (q1 := N1) (m1 := q4.1.s.length) (k1 := j1) (q2 := N2) (m2 := q4.1.p.length) (k2 := j2) (q3 := N3) (m3 := q4.1.i.length) (k3 := j3)
  have B13 := (B12.below hb13).far3 (show W.heap.size ≠ dB by omega) (.slice N1 q4.1.s.length j1) (.slice N2 q4.1.p.length j2) (.slice N3 q4.1.i.length j3)
  have hh13 := (hh12.belowU hb13).box3 Lx.box (q1 := N1) (m1 := q4.1.s.length) (k1 := j1) (q2 := N2) (m2 := q4.1.p.length) (k2 := j2) (q3 := N3) (m3 := q4.1.i.length) (k3 := j3)
  have hr13 := (hr12.belowU hb13).box3U (by omega) Lx.box (wd_noSlice rs) (q1 := N1) (m1 := q4.1.s.length) (k1 := j1) (q2 := N2) (m2 := q4.1.p.length) (k2 := j2) (q3 := N3) (m3 := q4.1.i.length) (k3 := j3)
  have HB13 := keep_put3 (keep_below hb13 HB12) (show W.heap.size ≤ dB by omega) (.slice N1 q4.1.s.length j1) (.slice N2 q4.1.p.length j2) (.slice N3 q4.1.i.length j3)
  go_upto_region 15 with fail
  clear b0 b1 b2 hown hrd Lx Ly fx s0 s1 s2 hb13 B12 hh12 hr12 HB12 Lb12 La12
  obtain ⟨u13, hu13⟩ : ∃ u13, (((w13.setCell ⟨dB, 0, none⟩ (.slice N1 q4.1.s.length j1)).setCell ⟨dB, 1, none⟩ (.slice N2 q4.1.p.length j2)).setCell ⟨dB, 2, none⟩ (.slice N3 q4.1.i.length j3)) = u13 := ⟨_, rfl⟩
  rw [hu13] at Lb13 La13 B13 hh13 hr13 HB13 ⊢
  clear hu13
  go_wp2_with fail
  refine (awake_any _).mono ?_
  rintro e w14 ⟨rfl, hb14⟩
  have HB14 := keep_below hb14 HB13
  have La14 := La13.belowU hb14
  have Lb14 := Lb13.belowU hb14
  have la0 := La14.box.cell 0 _ rfl
  have la1 := La14.box.cell 1 _ rfl
  have la2 := La14.box.cell 2 _ rfl
  have lb0 := Lb14.box.cell 0 _ rfl
  have lb1 := Lb14.box.cell 1 _ rfl
  have lb2 := Lb14.box.cell 2 _ rfl
  clear B13 hh13 hr13 HB13 La13 Lb13 hb14
  go_wp2_with fail
  refine (rsame_eq M1 _ k1 M2 _ k2 M3 _ k3 N1 j1 N2 j2 N3 j3 _ _ _ _ La14.rd Lb14.rd).mono ?_
  rintro e w15 ⟨rfl, hb15⟩
  go_wp2_with fail
  go_ret
  exact ⟨rfl, keep_below hb15 HB14⟩
end Go.Proofs.Ytmcdhpbkhchpeaa

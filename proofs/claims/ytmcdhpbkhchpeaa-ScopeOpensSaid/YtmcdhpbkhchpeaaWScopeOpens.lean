/- The walk of ScopeOpens. Printed by mk_opens.py. -/
import Derived.Test.YtmcdhpbkhchpeaaScopeVar
import Derived.Test.YtmcdhpbkhchpeaaScope16
import Derived.Test.YtmcdhpbkhchpeaaScope25
import Derived.Test.YtmcdhpbkhchpeaaScopeAwake
namespace Go.Proofs.Ytmcdhpbkhchpeaa
open Go.ChangeShapes Go.WideShapes Go.RowKit Words

theorem neqI' (x : Int) : (x != x) = false := by simp

set_option linter.unusedSimpArgs false in
set_option maxRecDepth 100000 in
set_option maxHeartbeats 8000000 in
theorem walkScopeOpens {H : Type} {enc : TypeId × Value → H} (W : World) (base : Nat) {v0 v1 : Value} {d0 d1 : DataW H} {p0 p1 : List MemPlace}
    (o0 : Value.okWide Try.prog W .any base 26 v0) (h0 : DataW.Trod enc Try.prog W 0 (fun _ => true) true 26 v0 d0 p0)
    (o1 : Value.okWide Try.prog W .any base 3 v1) (h1 : DataW.Trod enc Try.prog W 0 (fun _ => true) true 3 v1 d1 p1) :
    Calls Try.prog 5 #[v0, v1] W fun e w' => e = .returned (.bool true) ∧ Below W.heap.size W w' := by
  obtain ⟨As, ns, cs, Ap, np, cp, Ai, ni, ci, S, P, I, rfl, h⟩ := open_loc o0 h0
  obtain ⟨t, rfl, ht0, ht1⟩ := open_i64 Try.underlying3 o1 h1
  clear h0 o0 h1 o1 ht0 ht1
  have hW := loc_alloc W 26 (.slice As ns cs) (.slice Ap np cp) (.slice Ai ni ci)
  have B0 := Blk.new W #[.slice As ns cs, .slice Ap np cp, .slice Ai ni ci] 26
  have hhW := h.belowU hW
  clear h
  obtain ⟨lt, hlt⟩ : ∃ lt, decide (ns ≤ 200 ∧ np ≤ 100 ∧ ni ≤ 5000) = lt := ⟨_, rfl⟩
  cases lt with
  | false =>
    have HL := Lib.hid hlt
    clear hlt
    go_enter Try.func5, Try.ntmps5
    go_wp2_with fail
    refine (light_any As ns cs Ap np cp Ai ni ci _).mono ?_
    rw [HL.out]
    rintro e w0 ⟨rfl, hb0⟩
    go_wp2_with fail
    go_ret
    exact ⟨rfl, keep_below hb0 hW⟩
  | true =>
  have hls := of_decide_eq_true hlt
  have HL := Lib.hid hlt
  have hN : ns ≤ 1000000 ∧ np ≤ 1000000 ∧ ni ≤ 1000000 := by omega
  have HN := Lib.hid hN
  clear hlt hN hls
  obtain ⟨q, hq⟩ : ∃ q, openL ⟨S, P, I⟩ t true = q := ⟨_, rfl⟩
  have HQ := Lib.hid hq
  obtain ⟨q2, hq2⟩ : ∃ q2, openL ⟨S, P, I⟩ t false = q2 := ⟨_, rfl⟩
  have HQ2 := Lib.hid hq2
  obtain ⟨q3, hq3⟩ : ∃ q3, popL ⟨S, P, I⟩ = q3 := ⟨_, rfl⟩
  have HQ3 := Lib.hid hq3
  obtain ⟨q4, hq4⟩ : ∃ q4, leaveL ⟨S, P, I⟩ = q4 := ⟨_, rfl⟩
  have HQ4 := Lib.hid hq4
  have n1 := neqI' q.2
  have n2 := neqI' q2.2
  have n3 : (q3.2 == q3.2) = true := by simp
  have n4 : (q4.2 == q4.2) = true := by simp
  clear hq hq2 hq3 hq4
  go_enter Try.func5, Try.ntmps5
  go_wp2_with fail
  refine (light_any As ns cs Ap np cp Ai ni ci _).mono ?_
  rw [HL.out]
  rintro e w1 ⟨rfl, hb1⟩
  have B1 := B0.below hb1
  have hh1 := hhW.belowU hb1
  have HB1 := keep_below hb1 hW
  have hgW : W.heap.size < w1.heap.size := by have := hb1.size; simp at this; omega
  clear B0 hhW hb1 hW
  have b0 := B1.cell 0 _ rfl
  have b1 := B1.cell 1 _ rfl
  have b2 := B1.cell 2 _ rfl
  go_wp2_with fail
  refine (enter_any As ns cs Ap np cp Ai ni ci S P I t _ hh1 HN.out.1 HN.out.2.1 HN.out.2.2).mono ?_
  rw [HQ.out]
  rintro e w2 ⟨A1, a1, A2, a2, A3, a3, rfl, hown, hb2⟩
  have LA2 := Loc.mkNew (x := q.1) hown.rd
  have hbk := keep_alloc hb2 (.cells #[.slice A1 q.1.s.length a1, .slice A2 q.1.p.length a2, .slice A3 q.1.i.length a3] 26)
  have B2 := B1.below hbk
  have hh2 := hh1.belowU hbk
  have HB2 := keep_below hbk HB1
  have hgA : W.heap.size < w2.heap.size := by have := hb2.size; omega
  go_upto_region 4 with fail
  clear b0 b1 b2 hown hb2 B1 hh1 HB1 hbk
  obtain ⟨x2, hx2⟩ : ∃ x2, w2.alloc (.cells #[.slice A1 q.1.s.length a1, .slice A2 q.1.p.length a2, .slice A3 q.1.i.length a3] 26) = x2 := ⟨_, rfl⟩
  obtain ⟨dA, hd2⟩ : ∃ dA, w2.heap.size = dA := ⟨_, rfl⟩
  rw [hx2, hd2] at LA2
  rw [hx2] at B2 hh2 HB2
  rw [hd2] at hgA
  rw [hx2, hd2]
  clear hx2 hd2
  have b0 := B2.cell 0 _ rfl
  have b1 := B2.cell 1 _ rfl
  have b2 := B2.cell 2 _ rfl
  go_wp2_with fail
  refine (renter_any As ns cs Ap np cp Ai ni ci S P I t _ hh2 HN.out.1 HN.out.2.2).mono ?_
  rw [HQ.out]
  rintro e w3 ⟨D1, e1, D2, e2, D3, e3, rfl, hown, hb3⟩
  have LB3 := Loc.mkNew (x := q.1) hown
  have hbk := keep_alloc hb3 (.cells #[.slice D1 q.1.s.length e1, .slice D2 q.1.p.length e2, .slice D3 q.1.i.length e3] 26)
  have B3 := B2.below hbk
  have hh3 := hh2.belowU hbk
  have HB3 := keep_below hbk HB2
  have LA3 := LA2.belowU hbk
  have hgB : dA < w3.heap.size := by have := hb3.size; have := LA2.box.lt; omega
  go_upto_region 5 with fail
  clear b0 b1 b2 hown hb3 B2 hh2 HB2 hbk LA2
  obtain ⟨x3, hx3⟩ : ∃ x3, w3.alloc (.cells #[.slice D1 q.1.s.length e1, .slice D2 q.1.p.length e2, .slice D3 q.1.i.length e3] 26) = x3 := ⟨_, rfl⟩
  obtain ⟨dB, hd3⟩ : ∃ dB, w3.heap.size = dB := ⟨_, rfl⟩
  rw [hx3, hd3] at LB3
  rw [hx3] at B3 hh3 HB3 LA3
  rw [hd3] at hgB
  rw [hx3, hd3]
  clear hx3 hd3
  have b0 := B3.cell 0 _ rfl
  have b1 := B3.cell 1 _ rfl
  have b2 := B3.cell 2 _ rfl
  go_wp2_with fail
  refine (push_any As ns cs Ap np cp Ai ni ci S P I t _ hh3 HN.out.1 HN.out.2.1 HN.out.2.2).mono ?_
  rw [HQ2.out]
  rintro e w4 ⟨F1, f1, F2, f2, F3, f3, rfl, hown, hb4⟩
  have LC4 := Loc.mkNew (x := q2.1) hown.rd
  have hbk := keep_alloc hb4 (.cells #[.slice F1 q2.1.s.length f1, .slice F2 q2.1.p.length f2, .slice F3 q2.1.i.length f3] 26)
  have B4 := B3.below hbk
  have hh4 := hh3.belowU hbk
  have HB4 := keep_below hbk HB3
  have LA4 := LA3.belowU hbk
  have LB4 := LB3.belowU hbk
  have hgC : dB < w4.heap.size := by have := hb4.size; have := LB3.box.lt; omega
  go_upto_region 6 with fail
  clear b0 b1 b2 hown hb4 B3 hh3 HB3 hbk LA3 LB3
  obtain ⟨x4, hx4⟩ : ∃ x4, w4.alloc (.cells #[.slice F1 q2.1.s.length f1, .slice F2 q2.1.p.length f2, .slice F3 q2.1.i.length f3] 26) = x4 := ⟨_, rfl⟩
  obtain ⟨dC, hd4⟩ : ∃ dC, w4.heap.size = dC := ⟨_, rfl⟩
  rw [hx4, hd4] at LC4
  rw [hx4] at B4 hh4 HB4 LA4 LB4
  rw [hd4] at hgC
  rw [hx4, hd4]
  clear hx4 hd4
  have b0 := B4.cell 0 _ rfl
  have b1 := B4.cell 1 _ rfl
  have b2 := B4.cell 2 _ rfl
  go_wp2_with fail
  refine (rpush_any As ns cs Ap np cp Ai ni ci S P I t _ hh4 HN.out.1 HN.out.2.2).mono ?_
  rw [HQ2.out]
  rintro e w5 ⟨G1, g1, G2, g2, G3, g3, rfl, hown, hb5⟩
  have LD5 := Loc.mkNew (x := q2.1) hown
  have hbk := keep_alloc hb5 (.cells #[.slice G1 q2.1.s.length g1, .slice G2 q2.1.p.length g2, .slice G3 q2.1.i.length g3] 26)
  have B5 := B4.below hbk
  have hh5 := hh4.belowU hbk
  have HB5 := keep_below hbk HB4
  have LA5 := LA4.belowU hbk
  have LB5 := LB4.belowU hbk
  have LC5 := LC4.belowU hbk
  have hgD : dC < w5.heap.size := by have := hb5.size; have := LC4.box.lt; omega
  go_upto_region 7 with fail
  clear b0 b1 b2 hown hb5 B4 hh4 HB4 hbk LA4 LB4 LC4
  obtain ⟨x5, hx5⟩ : ∃ x5, w5.alloc (.cells #[.slice G1 q2.1.s.length g1, .slice G2 q2.1.p.length g2, .slice G3 q2.1.i.length g3] 26) = x5 := ⟨_, rfl⟩
  obtain ⟨dD, hd5⟩ : ∃ dD, w5.heap.size = dD := ⟨_, rfl⟩
  rw [hx5, hd5] at LD5
  rw [hx5] at B5 hh5 HB5 LA5 LB5 LC5
  rw [hd5] at hgD
  rw [hx5, hd5]
  clear hx5 hd5
  have l0 := LA5.box.cell 0 _ rfl
  have l1 := LA5.box.cell 1 _ rfl
  have l2 := LA5.box.cell 2 _ rfl
  have m0 := LB5.box.cell 0 _ rfl
  have m1 := LB5.box.cell 1 _ rfl
  have m2 := LB5.box.cell 2 _ rfl
  go_wp2_with fail
  refine (rsame_eq A1 _ a1 A2 _ a2 A3 _ a3 D1 e1 D2 e2 D3 e3 _ _ _ _ LA5.rd LB5.rd).mono ?_
  rintro e w6 ⟨rfl, hb6⟩
  have B6 := B5.below hb6
  have hh6 := hh5.belowU hb6
  have HB6 := keep_below hb6 HB5
  have LA6 := LA5.belowU hb6
  have LB6 := LB5.belowU hb6
  have LC6 := LC5.belowU hb6
  have LD6 := LD5.belowU hb6
  clear l0 l1 l2 m0 m1 m2 hb6 B5 hh5 HB5 LA5 LB5 LC5 LD5
  have l0 := LC6.box.cell 0 _ rfl
  have l1 := LC6.box.cell 1 _ rfl
  have l2 := LC6.box.cell 2 _ rfl
  have m0 := LD6.box.cell 0 _ rfl
  have m1 := LD6.box.cell 1 _ rfl
  have m2 := LD6.box.cell 2 _ rfl
  go_wp2_with fail
  refine (rsame_eq F1 _ f1 F2 _ f2 F3 _ f3 G1 g1 G2 g2 G3 g3 _ _ _ _ LC6.rd LD6.rd).mono ?_
  rintro e w7 ⟨rfl, hb7⟩
  have B7 := B6.below hb7
  have hh7 := hh6.belowU hb7
  have HB7 := keep_below hb7 HB6
  have LA7 := LA6.belowU hb7
  have LB7 := LB6.belowU hb7
  have LC7 := LC6.belowU hb7
  have LD7 := LD6.belowU hb7
  clear l0 l1 l2 m0 m1 m2 hb7 B6 hh6 HB6 LA6 LB6 LC6 LD6
  have b0 := B7.cell 0 _ rfl
  have b1 := B7.cell 1 _ rfl
  have b2 := B7.cell 2 _ rfl
  go_wp2_with fail
  refine (pop_any As ns cs Ap np cp Ai ni ci S P I _ hh7 HN.out.1 HN.out.2.1 HN.out.2.2).mono ?_
  rw [HQ3.out]
  rintro e w8 ⟨M1, k1, M2, k2, M3, k3, rfl, hown, hb8⟩
  have Lx := LA7.belowU hb8
  have fx := Lx.box.free
  have s0 := Lx.box.cell 0 _ rfl
  have s1 := Lx.box.cell 1 _ rfl
  have s2 := Lx.box.cell 2 _ rfl
  have LA8 := Lx.put3 (y := q3.1) hown.rd
  have LB8 := (LB7.belowU hb8).far3 Lx (show dB ≠ dA by omega) (q1 := M1) (m1 := q3.1.s.length) (k1 := k1) (q2 := M2) (m2 := q3.1.p.length) (k2 := k2) (q3 := M3) (m3 := q3.1.i.length) (k3 := k3)
  have LC8 := (LC7.belowU hb8).far3 Lx (show dC ≠ dA by omega) (q1 := M1) (m1 := q3.1.s.length) (k1 := k1) (q2 := M2) (m2 := q3.1.p.length) (k2 := k2) (q3 := M3) (m3 := q3.1.i.length) (k3 := k3)
  have LD8 := (LD7.belowU hb8).far3 Lx (show dD ≠ dA by omega) (q1 := M1) (m1 := q3.1.s.length) (k1 := k1) (q2 := M2) (m2 := q3.1.p.length) (k2 := k2) (q3 := M3) (m3 := q3.1.i.length) (k3 := k3)
  have B8 := (B7.below hb8).far3 (show W.heap.size ≠ dA by omega) (.slice M1 q3.1.s.length k1) (.slice M2 q3.1.p.length k2) (.slice M3 q3.1.i.length k3)
  have hh8 := (hh7.belowU hb8).box3 Lx.box (q1 := M1) (m1 := q3.1.s.length) (k1 := k1) (q2 := M2) (m2 := q3.1.p.length) (k2 := k2) (q3 := M3) (m3 := q3.1.i.length) (k3 := k3)
  have HB8 := keep_put3 (keep_below hb8 HB7) (show W.heap.size ≤ dA by omega) (.slice M1 q3.1.s.length k1) (.slice M2 q3.1.p.length k2) (.slice M3 q3.1.i.length k3)
  go_upto_region 10 with fail
  clear b0 b1 b2 hown Lx fx s0 s1 s2 hb8 B7 hh7 HB7 LA7 LB7 LC7 LD7
  obtain ⟨x8, hx8⟩ : ∃ x8, ((w8.setCell ⟨dA, 0, none⟩ (.slice M1 q3.1.s.length k1)).setCell ⟨dA, 1, none⟩ (.slice M2 q3.1.p.length k2)).setCell ⟨dA, 2, none⟩ (.slice M3 q3.1.i.length k3) = x8 := ⟨_, rfl⟩
  rw [hx8] at B8 hh8 HB8 LA8 LB8 LC8 LD8 ⊢
  clear hx8
  have b0 := B8.cell 0 _ rfl
  have b1 := B8.cell 1 _ rfl
  have b2 := B8.cell 2 _ rfl
  go_wp2_with fail
  refine (rpop_any As ns cs Ap np cp Ai ni ci S P I _ hh8 HN.out.1 HN.out.2.1).mono ?_
  rw [HQ3.out]
  rintro e w9 ⟨N1, j1, N2, j2, N3, j3, rfl, hown, hb9⟩
  have Lx := LB8.belowU hb9
  have fx := Lx.box.free
  have s0 := Lx.box.cell 0 _ rfl
  have s1 := Lx.box.cell 1 _ rfl
  have s2 := Lx.box.cell 2 _ rfl
  have LB9 := Lx.put3 (y := q3.1) hown
  have LA9 := (LA8.belowU hb9).far3 Lx (show dA ≠ dB by omega) (q1 := N1) (m1 := q3.1.s.length) (k1 := j1) (q2 := N2) (m2 := q3.1.p.length) (k2 := j2) (q3 := N3) (m3 := q3.1.i.length) (k3 := j3)
  have LC9 := (LC8.belowU hb9).far3 Lx (show dC ≠ dB by omega) (q1 := N1) (m1 := q3.1.s.length) (k1 := j1) (q2 := N2) (m2 := q3.1.p.length) (k2 := j2) (q3 := N3) (m3 := q3.1.i.length) (k3 := j3)
  have LD9 := (LD8.belowU hb9).far3 Lx (show dD ≠ dB by omega) (q1 := N1) (m1 := q3.1.s.length) (k1 := j1) (q2 := N2) (m2 := q3.1.p.length) (k2 := j2) (q3 := N3) (m3 := q3.1.i.length) (k3 := j3)
  have B9 := (B8.below hb9).far3 (show W.heap.size ≠ dB by omega) (.slice N1 q3.1.s.length j1) (.slice N2 q3.1.p.length j2) (.slice N3 q3.1.i.length j3)
  have hh9 := (hh8.belowU hb9).box3 Lx.box (q1 := N1) (m1 := q3.1.s.length) (k1 := j1) (q2 := N2) (m2 := q3.1.p.length) (k2 := j2) (q3 := N3) (m3 := q3.1.i.length) (k3 := j3)
  have HB9 := keep_put3 (keep_below hb9 HB8) (show W.heap.size ≤ dB by omega) (.slice N1 q3.1.s.length j1) (.slice N2 q3.1.p.length j2) (.slice N3 q3.1.i.length j3)
  go_upto_region 11 with fail
  clear b0 b1 b2 hown Lx fx s0 s1 s2 hb9 B8 hh8 HB8 LA8 LB8 LC8 LD8
  obtain ⟨x9, hx9⟩ : ∃ x9, ((w9.setCell ⟨dB, 0, none⟩ (.slice N1 q3.1.s.length j1)).setCell ⟨dB, 1, none⟩ (.slice N2 q3.1.p.length j2)).setCell ⟨dB, 2, none⟩ (.slice N3 q3.1.i.length j3) = x9 := ⟨_, rfl⟩
  rw [hx9] at B9 hh9 HB9 LA9 LB9 LC9 LD9 ⊢
  clear hx9
  have b0 := B9.cell 0 _ rfl
  have b1 := B9.cell 1 _ rfl
  have b2 := B9.cell 2 _ rfl
  go_wp2_with fail
  refine (leave_any As ns cs Ap np cp Ai ni ci S P I _ hh9 HN.out.1 HN.out.2.1 HN.out.2.2).mono ?_
  rw [HQ4.out]
  rintro e w10 ⟨X1, y1, X2, y2, X3, y3, rfl, hown, hb10⟩
  have Lx := LC9.belowU hb10
  have fx := Lx.box.free
  have s0 := Lx.box.cell 0 _ rfl
  have s1 := Lx.box.cell 1 _ rfl
  have s2 := Lx.box.cell 2 _ rfl
  have LC10 := Lx.put3 (y := q4.1) hown.rd
  have LA10 := (LA9.belowU hb10).far3 Lx (show dA ≠ dC by omega) (q1 := X1) (m1 := q4.1.s.length) (k1 := y1) (q2 := X2) (m2 := q4.1.p.length) (k2 := y2) (q3 := X3) (m3 := q4.1.i.length) (k3 := y3)
  have LB10 := (LB9.belowU hb10).far3 Lx (show dB ≠ dC by omega) (q1 := X1) (m1 := q4.1.s.length) (k1 := y1) (q2 := X2) (m2 := q4.1.p.length) (k2 := y2) (q3 := X3) (m3 := q4.1.i.length) (k3 := y3)
  have LD10 := (LD9.belowU hb10).far3 Lx (show dD ≠ dC by omega) (q1 := X1) (m1 := q4.1.s.length) (k1 := y1) (q2 := X2) (m2 := q4.1.p.length) (k2 := y2) (q3 := X3) (m3 := q4.1.i.length) (k3 := y3)
  have B10 := (B9.below hb10).far3 (show W.heap.size ≠ dC by omega) (.slice X1 q4.1.s.length y1) (.slice X2 q4.1.p.length y2) (.slice X3 q4.1.i.length y3)
  have hh10 := (hh9.belowU hb10).box3 Lx.box (q1 := X1) (m1 := q4.1.s.length) (k1 := y1) (q2 := X2) (m2 := q4.1.p.length) (k2 := y2) (q3 := X3) (m3 := q4.1.i.length) (k3 := y3)
  have HB10 := keep_put3 (keep_below hb10 HB9) (show W.heap.size ≤ dC by omega) (.slice X1 q4.1.s.length y1) (.slice X2 q4.1.p.length y2) (.slice X3 q4.1.i.length y3)
  go_upto_region 12 with fail
  clear b0 b1 b2 hown Lx fx s0 s1 s2 hb10 B9 hh9 HB9 LA9 LB9 LC9 LD9
  obtain ⟨x10, hx10⟩ : ∃ x10, ((w10.setCell ⟨dC, 0, none⟩ (.slice X1 q4.1.s.length y1)).setCell ⟨dC, 1, none⟩ (.slice X2 q4.1.p.length y2)).setCell ⟨dC, 2, none⟩ (.slice X3 q4.1.i.length y3) = x10 := ⟨_, rfl⟩
  rw [hx10] at B10 hh10 HB10 LA10 LB10 LC10 LD10 ⊢
  clear hx10
  have b0 := B10.cell 0 _ rfl
  have b1 := B10.cell 1 _ rfl
  have b2 := B10.cell 2 _ rfl
  go_wp2_with fail
  refine (rleave_any As ns cs Ap np cp Ai ni ci S P I _ hh10 HN.out.1 HN.out.2.1).mono ?_
  rw [HQ4.out]
  rintro e w11 ⟨Z1, z1, Z2, z2, Z3, z3, rfl, hown, hb11⟩
  have Lx := LD10.belowU hb11
  have fx := Lx.box.free
  have s0 := Lx.box.cell 0 _ rfl
  have s1 := Lx.box.cell 1 _ rfl
  have s2 := Lx.box.cell 2 _ rfl
  have LD11 := Lx.put3 (y := q4.1) hown
  have LA11 := (LA10.belowU hb11).far3 Lx (show dA ≠ dD by omega) (q1 := Z1) (m1 := q4.1.s.length) (k1 := z1) (q2 := Z2) (m2 := q4.1.p.length) (k2 := z2) (q3 := Z3) (m3 := q4.1.i.length) (k3 := z3)
  have LB11 := (LB10.belowU hb11).far3 Lx (show dB ≠ dD by omega) (q1 := Z1) (m1 := q4.1.s.length) (k1 := z1) (q2 := Z2) (m2 := q4.1.p.length) (k2 := z2) (q3 := Z3) (m3 := q4.1.i.length) (k3 := z3)
  have LC11 := (LC10.belowU hb11).far3 Lx (show dC ≠ dD by omega) (q1 := Z1) (m1 := q4.1.s.length) (k1 := z1) (q2 := Z2) (m2 := q4.1.p.length) (k2 := z2) (q3 := Z3) (m3 := q4.1.i.length) (k3 := z3)
  have B11 := (B10.below hb11).far3 (show W.heap.size ≠ dD by omega) (.slice Z1 q4.1.s.length z1) (.slice Z2 q4.1.p.length z2) (.slice Z3 q4.1.i.length z3)
  have hh11 := (hh10.belowU hb11).box3 Lx.box (q1 := Z1) (m1 := q4.1.s.length) (k1 := z1) (q2 := Z2) (m2 := q4.1.p.length) (k2 := z2) (q3 := Z3) (m3 := q4.1.i.length) (k3 := z3)
  have HB11 := keep_put3 (keep_below hb11 HB10) (show W.heap.size ≤ dD by omega) (.slice Z1 q4.1.s.length z1) (.slice Z2 q4.1.p.length z2) (.slice Z3 q4.1.i.length z3)
  go_upto_region 13 with fail
  clear b0 b1 b2 hown Lx fx s0 s1 s2 hb11 B10 hh10 HB10 LA10 LB10 LC10 LD10
  obtain ⟨x11, hx11⟩ : ∃ x11, ((w11.setCell ⟨dD, 0, none⟩ (.slice Z1 q4.1.s.length z1)).setCell ⟨dD, 1, none⟩ (.slice Z2 q4.1.p.length z2)).setCell ⟨dD, 2, none⟩ (.slice Z3 q4.1.i.length z3) = x11 := ⟨_, rfl⟩
  rw [hx11] at B11 hh11 HB11 LA11 LB11 LC11 LD11 ⊢
  clear hx11
  go_wp2_with fail
  refine (awake_any _).mono ?_
  rintro e w12 ⟨rfl, hb12⟩
  have B12 := B11.below hb12
  have hh12 := hh11.belowU hb12
  have HB12 := keep_below hb12 HB11
  have LA12 := LA11.belowU hb12
  have LB12 := LB11.belowU hb12
  have LC12 := LC11.belowU hb12
  have LD12 := LD11.belowU hb12
  clear hb12 B11 hh11 HB11 LA11 LB11 LC11 LD11
  have l0 := LA12.box.cell 0 _ rfl
  have l1 := LA12.box.cell 1 _ rfl
  have l2 := LA12.box.cell 2 _ rfl
  have m0 := LB12.box.cell 0 _ rfl
  have m1 := LB12.box.cell 1 _ rfl
  have m2 := LB12.box.cell 2 _ rfl
  go_wp2_with fail
  refine (rsame_eq M1 _ k1 M2 _ k2 M3 _ k3 N1 j1 N2 j2 N3 j3 _ _ _ _ LA12.rd LB12.rd).mono ?_
  rintro e w13 ⟨rfl, hb13⟩
  have B13 := B12.below hb13
  have hh13 := hh12.belowU hb13
  have HB13 := keep_below hb13 HB12
  have LA13 := LA12.belowU hb13
  have LB13 := LB12.belowU hb13
  have LC13 := LC12.belowU hb13
  have LD13 := LD12.belowU hb13
  clear l0 l1 l2 m0 m1 m2 hb13 B12 hh12 HB12 LA12 LB12 LC12 LD12
  have l0 := LC13.box.cell 0 _ rfl
  have l1 := LC13.box.cell 1 _ rfl
  have l2 := LC13.box.cell 2 _ rfl
  have m0 := LD13.box.cell 0 _ rfl
  have m1 := LD13.box.cell 1 _ rfl
  have m2 := LD13.box.cell 2 _ rfl
  go_wp2_with fail
  refine (rsame_eq X1 _ y1 X2 _ y2 X3 _ y3 Z1 z1 Z2 z2 Z3 z3 _ _ _ _ LC13.rd LD13.rd).mono ?_
  rintro e w14 ⟨rfl, hb14⟩
  have B14 := B13.below hb14
  have hh14 := hh13.belowU hb14
  have HB14 := keep_below hb14 HB13
  have LA14 := LA13.belowU hb14
  have LB14 := LB13.belowU hb14
  have LC14 := LC13.belowU hb14
  have LD14 := LD13.belowU hb14
  clear l0 l1 l2 m0 m1 m2 hb14 B13 hh13 HB13 LA13 LB13 LC13 LD13
  go_wp2_with fail
  go_ret
  exact ⟨rfl, HB14⟩
end Go.Proofs.Ytmcdhpbkhchpeaa

/- The walk of ArenaRanges. -/
import Derived.Test.YtopdplehnknbiaaArena5
import Derived.Test.YtopdplehnknbiaaASame
namespace Go.Proofs.Ytopdplehnknbiaa
open Go.ChangeShapes Go.WideShapes Go.RowKit Words

theorem walkArenaRanges {H : Type} {enc : TypeId × Value → H} (W : World) (base : Nat) {v0 v1 v2 v3 v4 : Value} {d0 d1 d2 d3 d4 : DataW H} {p0 p1 p2 p3 p4 : List MemPlace}
    (o0 : Value.okWide Try.prog W .any base 22 v0) (h0 : DataW.Trod enc Try.prog W 0 (fun _ => true) true 22 v0 d0 p0)
    (o1 : Value.okWide Try.prog W .any base 22 v1) (h1 : DataW.Trod enc Try.prog W 0 (fun _ => true) true 22 v1 d1 p1)
    (o2 : Value.okWide Try.prog W .any base 23 v2) (h2 : DataW.Trod enc Try.prog W 0 (fun _ => true) true 23 v2 d2 p2)
    (o3 : Value.okWide Try.prog W .any base 23 v3) (h3 : DataW.Trod enc Try.prog W 0 (fun _ => true) true 23 v3 d3 p3)
    (o4 : Value.okWide Try.prog W .any base 3 v4) (h4 : DataW.Trod enc Try.prog W 0 (fun _ => true) true 3 v4 d4 p4) :
    Calls Try.prog 7 #[v0, v1, v2, v3, v4] W fun e w' => e = .returned (.bool true) ∧ Below W.heap.size W w' := by
  obtain ⟨A, n, c, l, rfl, hr⟩ := open_words Try.underlying22 Try.underlying23 (by kernel_rfl) o0 h0
  obtain ⟨B, k, d, xs, rfl, hq⟩ := open_words Try.underlying22 Try.underlying23 (by kernel_rfl) o1 h1
  obtain ⟨t, rfl⟩ := open_word Try.underlying23 o2 h2
  obtain ⟨f, rfl⟩ := open_word Try.underlying23 o3 h3
  obtain ⟨m, rfl, hm0, hm1⟩ := open_i64 Try.underlying3 o4 h4
  clear h0 o0 h1 o1 h2 o2 h3 o3 h4 o4
  obtain ⟨y, er, hy⟩ : ∃ y er, readW l (U f) m = (y, er) := by rcases readW l (U f) m with ⟨z, er⟩; exact ⟨z, er, rfl⟩
  obtain ⟨z, e2, hz⟩ : ∃ y er, writeW l (U t) xs = (y, er) := by rcases writeW l (U t) xs with ⟨z, er⟩; exact ⟨z, er, rfl⟩
  obtain ⟨x, e3, hx⟩ : ∃ y er, moveW l (U t) (U f) m = (y, er) := by rcases moveW l (U t) (U f) m with ⟨z, er⟩; exact ⟨z, er, rfl⟩
  have HY := Lib.hid hy
  have HZ := Lib.hid hz
  have HX := Lib.hid hx
  clear hy hz hx hm0 hm1
  by_cases hl : n ≤ 500 ∧ k ≤ 500
  · obtain ⟨hl, hk⟩ := hl
    have hN : n ≤ 1000000 := by omega
    go_enter Try.func7, Try.ntmps7
    go_wp2_with (go_at_call 8; refine (light_any _ _ _ _).mono ?_; rintro e w' ⟨rfl, rfl⟩; first | rw [decide_eq_true hl] | rw [decide_eq_true hk])
    refine (read_any A n c l f m _ hr hN).mono ?_
    rw [HY.out]
    rintro e w1 ⟨A1, c1, rfl, hr1, hb1⟩
    dsimp only at hr1 ⊢
    have hr := hr.belowU hb1
    have hq := hq.belowU hb1
    go_wp2_with fail
    refine (rread_any A n c l f m _ hr hN).mono ?_
    rw [HY.out]
    rintro e w2 ⟨A2, c2, rfl, hr2, hb2⟩
    dsimp only at hr2 ⊢
    have hr := hr.belowU hb2
    have hq := hq.belowU hb2
    have hr1 := hr1.belowU hb2
    go_wp2_with fail
    refine (write_any _ _ _ _ _ _ _ _ _ _ hr hq hN).mono ?_
    rw [HZ.out]
    rintro e w3 ⟨A3, c3, rfl, hr3, hb3⟩
    dsimp only at hr3 ⊢
    have hr := hr.belowU hb3
    have hq := hq.belowU hb3
    have hr1 := hr1.belowU hb3
    have hr2 := hr2.belowU hb3
    go_wp2_with fail
    refine (rwrite_any _ _ _ _ _ _ _ _ _ _ hr hq hN).mono ?_
    rw [HZ.out]
    rintro e w4 ⟨A4, c4, rfl, hr4, hb4⟩
    dsimp only at hr4 ⊢
    have hr := hr.belowU hb4
    have hr1 := hr1.belowU hb4
    have hr2 := hr2.belowU hb4
    have hr3 := hr3.belowU hb4
    go_wp2_with fail
    refine (move_any A n c l t f m _ hr hN).mono ?_
    rw [HX.out]
    rintro e w5 ⟨A5, c5, rfl, hr5, hb5⟩
    dsimp only at hr5 ⊢
    have hr := hr.belowU hb5
    have hr1 := hr1.belowU hb5
    have hr2 := hr2.belowU hb5
    have hr3 := hr3.belowU hb5
    have hr4 := hr4.belowU hb5
    go_wp2_with fail
    refine (rmove_any A n c l t f m _ hr hN).mono ?_
    rw [HX.out]
    rintro e w6 ⟨A6, c6, rfl, hr6, hb6⟩
    dsimp only at hr6 ⊢
    have hr1 := hr1.belowU hb6
    have hr2 := hr2.belowU hb6
    have hr3 := hr3.belowU hb6
    have hr4 := hr4.belowU hb6
    have hr5 := hr5.belowU hb6
    go_wp2_with fail
    refine (awake_any _).mono ?_
    rintro e w7 ⟨rfl, hb7⟩
    have hr1 := hr1.belowU hb7
    have hr2 := hr2.belowU hb7
    have hr3 := hr3.belowU hb7
    have hr4 := hr4.belowU hb7
    have hr5 := hr5.belowU hb7
    have hr6 := hr6.belowU hb7
    go_wp2_with fail
    refine (same_any _ _ _ _ _ _ _ _ _ hr1 hr2).mono ?_
    rintro e w8 ⟨rfl, m1, rfl⟩
    rw [decide_eq_true rfl]
    go_wp2_with fail
    refine (same_any _ _ _ _ _ _ _ _ _ (hr3.drewN _) (hr4.drewN _)).mono ?_
    rintro e w8 ⟨rfl, m2, rfl⟩
    rw [decide_eq_true rfl]
    go_wp2_with fail
    refine (same_any _ _ _ _ _ _ _ _ _ (hr5.drewN _) (hr6.drewN _)).mono ?_
    rintro e w8 ⟨rfl, m3, rfl⟩
    rw [decide_eq_true rfl]
    go_wp2_with fail
    go_ret
    exact ⟨rfl, below_drewN (keep_below hb7 (keep_below hb6 (keep_below hb5 (keep_below hb4 (keep_below hb3 (keep_below hb2 hb1)))))) _⟩
  · by_cases hl1 : n ≤ 500
    · have hk : ¬ k ≤ 500 := fun h => hl ⟨hl1, h⟩
      go_enter Try.func7, Try.ntmps7
      go_wp2_with (go_at_call 8; refine (light_any _ _ _ _).mono ?_; rintro e w' ⟨rfl, rfl⟩; first | rw [decide_eq_true hl1] | rw [decide_eq_false hk])
      go_ret
      exact ⟨rfl, Below.refl _ _⟩
    · go_enter Try.func7, Try.ntmps7
      go_wp2_with (go_at_call 8; refine (light_any _ _ _ _).mono ?_; rintro e w' ⟨rfl, rfl⟩; rw [decide_eq_false hl1])
      go_ret
      exact ⟨rfl, Below.refl _ _⟩
end Go.Proofs.Ytopdplehnknbiaa

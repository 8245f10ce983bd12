/- The walk of ArenaKeeps. -/
import Derived.Test.YtopdplehnknbiaaArena5
import Derived.Test.YtopdplehnknbiaaASame
import Derived.Deep.RegionHeld3
namespace Go.Proofs.Ytopdplehnknbiaa
open Go.ChangeShapes Go.WideShapes Go.RowKit Words

theorem writeW_cases (l xs : List (BitVec 64)) (t : Int) : (∃ i : Nat, i + xs.length ≤ l.length ∧ t = 4096 + i ∧ writeW l t xs = (wr l i xs, 0) ∧ readW (wr l i xs) t xs.length = (xs, 0)) ∨ (∃ er : Int, (er != 0) = true ∧ writeW l t xs = ([], er)) := by
  rcases placeW_cases l.length t xs.length (by omega) with ⟨i, hi, ht, hp⟩ | ⟨y, hp⟩
  · simp only [Int.toNat_natCast] at hi
    refine Or.inl ⟨i, hi, ht, by unfold writeW; rw [hp, if_pos rfl]; rfl, ?_⟩
    unfold readW
    rw [if_neg (by omega), wr_len _ _ _ hi, hp, if_pos rfl]
    simp only [Int.toNat_natCast]
    refine Prod.ext ?_ rfl
    show (((wr l i xs).drop i).take xs.length) = xs
    unfold wr
    rw [List.drop_append_of_le_length (by rw [List.length_take]; omega), List.drop_of_length_le (by rw [List.length_take]; omega)]
    simp
  · exact Or.inr ⟨2, rfl, by unfold writeW; rw [hp, if_neg (by simp)]⟩

set_option maxHeartbeats 8000000 in
set_option maxRecDepth 8000 in
theorem walkArenaKeeps {H : Type} {enc : TypeId × Value → H} (W : World) (base : Nat) {v0 v1 v2 v3 : Value} {d0 d1 d2 d3 : DataW H} {p0 p1 p2 p3 : List MemPlace}
    (o0 : Value.okWide Try.prog W .any base 22 v0) (h0 : DataW.Trod enc Try.prog W 0 (fun _ => true) true 22 v0 d0 p0)
    (o1 : Value.okWide Try.prog W .any base 22 v1) (h1 : DataW.Trod enc Try.prog W 0 (fun _ => true) true 22 v1 d1 p1)
    (o2 : Value.okWide Try.prog W .any base 23 v2) (h2 : DataW.Trod enc Try.prog W 0 (fun _ => true) true 23 v2 d2 p2)
    (o3 : Value.okWide Try.prog W .any base 3 v3) (h3 : DataW.Trod enc Try.prog W 0 (fun _ => true) true 3 v3 d3 p3) :
    Calls Try.prog 6 #[v0, v1, v2, v3] W fun e w' => e = .returned (.bool true) ∧ Below W.heap.size W w' := by
  obtain ⟨A, n, c, l, rfl, hr⟩ := open_words Try.underlying22 Try.underlying23 (by kernel_rfl) o0 h0
  obtain ⟨B, k, d, xs, rfl, hq⟩ := open_words Try.underlying22 Try.underlying23 (by kernel_rfl) o1 h1
  obtain ⟨t, rfl⟩ := open_word Try.underlying23 o2 h2
  obtain ⟨o, rfl, hm0, hm1⟩ := open_i64 Try.underlying3 o3 h3
  clear h0 o0 h1 o1 h2 o2 h3 o3
  have hlen := hr.length (fun _ => rfl) (by omega)
  have hlen2 := hq.length (fun _ => rfl) (by omega)
  by_cases hl : n ≤ 500
  · by_cases hk : k ≤ 500
    · by_cases hz : n = 0
      · subst hz
        go_enter Try.func6, Try.ntmps6
        go_wp2_with (go_at_call 8; refine (light_any _ _ _ _).mono ?_; rintro e w' ⟨rfl, rfl⟩; first | rw [decide_eq_true hl] | rw [decide_eq_true hk])
        refine (awake_any _).mono ?_
        rintro e w3 ⟨rfl, hb3⟩
        go_wp2_with fail
        go_ret
        exact ⟨rfl, hb3⟩
      · have hN : n ≤ 1000000 := by omega
        have hz1 : ((n : Int) == 0) = false := by simp; omega
        rcases writeW_cases l xs (U t) with ⟨i, hi, ht, hw, hrd⟩ | ⟨er, her, hw⟩
        · rw [hlen, hlen2] at hi
          have hwl : (wr l i xs).length = n := by rw [wr_len _ _ _ (by omega), hlen]
          have hwg := wr_get l i xs (by omega)
          rw [hlen2] at hwg hrd
          obtain ⟨x, hx⟩ : ∃ x, wr l i xs = x := ⟨_, rfl⟩
          rw [hx] at hw hrd hwl hwg
          have hb1' : -9223372036854775808 ≤ o.tmod n ∧ o.tmod n ≤ 9223372036854775807 := by
            have := Int.lt_tmod_of_pos o (show (0 : Int) < n by omega)
            have := Int.tmod_lt_of_pos o (show (0 : Int) < n by omega)
            omega
          have hb2' : -9223372036854775808 ≤ o.tmod n + n ∧ o.tmod n + n ≤ 9223372036854775807 := by
            have := Int.lt_tmod_of_pos o (show (0 : Int) < n by omega)
            have := Int.tmod_lt_of_pos o (show (0 : Int) < n by omega)
            omega
          have HB1 := Lib.hid hb1'
          have HB2 := Lib.hid hb2'
          clear hb1' hb2'
          have hpp : ∃ p : Nat, p < n ∧ ((o.tmod n) + n).tmod n = (p : Int) := by
            have h1 : -(n : Int) < o.tmod n := by
              have := Int.lt_tmod_of_pos o (show (0 : Int) < n by omega)
              omega
            have h2 : 0 ≤ ((o.tmod n) + n).tmod n := Int.tmod_nonneg _ (by omega)
            have h3 : ((o.tmod n) + n).tmod n < n := Int.tmod_lt_of_pos _ (by omega)
            exact ⟨(((o.tmod n) + n).tmod n).toNat, by omega, by omega⟩
          obtain ⟨p, hp, hpe⟩ := hpp
          have HW := Lib.hid hw
          have HR := Lib.hid hrd
          have HL := Lib.hid hwl
          have HG := Lib.hid hwg
          have HT := Lib.hid ht
          have HLN := Lib.hid hlen
          have HLK := Lib.hid hlen2
          clear hw hrd hwl hwg ht hx hlen hlen2
          go_enter Try.func6, Try.ntmps6
          go_wp2_with (go_at_call 8; refine (light_any _ _ _ _).mono ?_; rintro e w' ⟨rfl, rfl⟩; first | rw [decide_eq_true hl] | rw [decide_eq_true hk])
          refine (write_any _ _ _ _ _ _ _ _ _ _ hr hq hN).mono ?_
          rw [HW.out]
          rintro e w1 ⟨A1, c1, rfl, hr1, hb1⟩
          dsimp only at hr1 ⊢
          rw [HL.out] at hr1 ⊢
          have hr := hr.belowU hb1
          have hq := hq.belowU hb1
          go_wp2_with fail
          refine (read_any A1 n c1 x t _ _ hr1 hN).mono ?_
          rw [HR.out]
          rintro e w2 ⟨A2, c2, rfl, hr2, hb2⟩
          dsimp only at hr2 ⊢
          rw [HLK.out] at hr2 ⊢
          have hr := hr.belowU hb2
          have hq := hq.belowU hb2
          have hr1 := hr1.belowU hb2
          go_wp2_with fail
          refine (same_any _ _ _ _ _ _ _ _ _ hr2 hq).mono ?_
          rintro e w3 ⟨rfl, m1, rfl⟩
          rw [decide_eq_true rfl]
          have hr := hr.drewN m1
          have hr1 := hr1.drewN m1
          have hb3 : Below W.heap.size W (w2.drewN m1) := below_drewN (keep_below hb2 hb1) _
          have w1 : IntKind.i64.wrap (o.tmod n) = o.tmod n := IntWalk.i64_in _ HB1.out
          have w2' : IntKind.i64.wrap (o.tmod n + n) = o.tmod n + n := IntWalk.i64_in _ HB2.out
          have w3 : IntKind.i64.wrap (4096 + (p : Int)) = 4096 + (p : Int) := IntWalk.i64_in _ (by omega)
          have w4 : IntKind.u64.wrap (4096 + (p : Int)) = 4096 + (p : Int) := IntWalk.u64_in _ (by omega)
          have w5 : IntKind.u64.wrap (k : Int) = (k : Int) := IntWalk.u64_in _ (by omega)
          have w6 : IntKind.u64.wrap (U t + (k : Int)) = U t + (k : Int) := IntWalk.u64_in _ (by have := HT.out; omega)
          have w7 : IntKind.i64.wrap (p : Int) = (p : Int) := IntWalk.i64_in _ (by omega)
          by_cases hp1 : i ≤ p
          · have g1 : decide (U t ≤ 4096 + (p : Int)) = true := by rw [decide_eq_true_eq]; have := HT.out; omega
            by_cases hp2 : p < i + k
            · have g2 : decide (4096 + (p : Int) < U t + (k : Int)) = true := by rw [decide_eq_true_eq]; have := HT.out; omega
              go_wp2_with fail
              refine (awake_any _).mono ?_
              rintro e w5 ⟨rfl, hb5⟩
              go_wp2_with fail
              go_ret
              exact ⟨rfl, keep_below hb5 hb3⟩
            · have g2 : decide (4096 + (p : Int) < U t + (k : Int)) = false := by rw [decide_eq_false_iff_not]; have := HT.out; omega
              obtain ⟨b, off, v, rfl, hbb, hv, hc⟩ := hr.elem (fun _ => rfl) (by omega) hp
              have c0 := hc 0 _ rfl
              rw [Nat.mul_one, Nat.add_zero] at c0
              obtain ⟨b', off', v', rfl, hbb', hv', hc'⟩ := hr1.elem (fun _ => rfl) (by omega) hp
              have c0' := hc' 0 _ rfl
              rw [Nat.mul_one, Nat.add_zero] at c0'
              have hvv : v' = v := by
                have h1 := HG.out p
                rw [if_neg (by omega), if_neg hp2] at h1
                rw [hv, hv'] at h1
                exact Option.some.inj h1
              subst hvv
              clear hv hv' hc hc'
              have hq0 : Below (w2.drewN m1).heap.size (w2.drewN m1) (w2.drewN m1) := Below.refl _ _
              have k0 : (0 : Int) ≤ (p : Int) := by omega
              have k1 : (p : Int) < (n : Int) := by omega
              go_wp2_with fail
              clear w1 w2' w3 w4 w5 w6 w7 hpe hm0 hm1 hz1
              generalize hw4 : w2.drewN m1 = w4 at *
              go_region_law ((go_simp; go_at_call 13; refine (awake_any _).mono ?_; rintro e w' ⟨rfl, hb⟩; have d0 := keep_cell hb (show w4.drew.cell? _ = _ from c0); have d1 := keep_cell hb (show w4.drew.cell? _ = _ from c0')))
              all_goals
                go_wp2_with fail
                go_ret
                exact ⟨rfl, keep_below hb hb3.drew⟩
          · have g1 : decide (U t ≤ 4096 + (p : Int)) = false := by rw [decide_eq_false_iff_not]; have := HT.out; omega
            obtain ⟨b, off, v, rfl, hbb, hv, hc⟩ := hr.elem (fun _ => rfl) (by omega) hp
            have c0 := hc 0 _ rfl
            rw [Nat.mul_one, Nat.add_zero] at c0
            obtain ⟨b', off', v', rfl, hbb', hv', hc'⟩ := hr1.elem (fun _ => rfl) (by omega) hp
            have c0' := hc' 0 _ rfl
            rw [Nat.mul_one, Nat.add_zero] at c0'
            have hvv : v' = v := by
              have h1 := HG.out p
              rw [if_pos (by omega)] at h1
              rw [hv, hv'] at h1
              exact Option.some.inj h1
            subst hvv
            clear hv hv' hc hc'
            have hq0 : Below (w2.drewN m1).heap.size (w2.drewN m1) (w2.drewN m1) := Below.refl _ _
            have k0 : (0 : Int) ≤ (p : Int) := by omega
            have k1 : (p : Int) < (n : Int) := by omega
            go_wp2_with fail
            clear w1 w2' w3 w4 w5 w6 w7 hpe hm0 hm1 hz1
            generalize hw4 : w2.drewN m1 = w4 at *
            go_region_law ((go_simp; go_at_call 13; refine (awake_any _).mono ?_; rintro e w' ⟨rfl, hb⟩; have d0 := keep_cell hb (show w4.drew.cell? _ = _ from c0); have d1 := keep_cell hb (show w4.drew.cell? _ = _ from c0')))
            all_goals
              go_wp2_with fail
              go_ret
              exact ⟨rfl, keep_below hb hb3.drew⟩
        · have HW := Lib.hid hw
          clear hw
          go_enter Try.func6, Try.ntmps6
          go_wp2_with (go_at_call 8; refine (light_any _ _ _ _).mono ?_; rintro e w' ⟨rfl, rfl⟩; first | rw [decide_eq_true hl] | rw [decide_eq_true hk])
          refine (write_any _ _ _ _ _ _ _ _ _ _ hr hq hN).mono ?_
          rw [HW.out]
          rintro e w1 ⟨A1, c1, rfl, hr1, hb1⟩
          dsimp only [List.length_nil] at hr1 ⊢
          go_wp2_with fail
          refine (awake_any _).mono ?_
          rintro e w3 ⟨rfl, hb3⟩
          go_wp2_with fail
          go_ret
          exact ⟨rfl, keep_below hb3 hb1⟩
    · go_enter Try.func6, Try.ntmps6
      go_wp2_with (go_at_call 8; refine (light_any _ _ _ _).mono ?_; rintro e w' ⟨rfl, rfl⟩; first | rw [decide_eq_true hl] | rw [decide_eq_false hk])
      refine (awake_any _).mono ?_
      rintro e w3 ⟨rfl, hb3⟩
      go_wp2_with fail
      go_ret
      exact ⟨rfl, hb3⟩
  · go_enter Try.func6, Try.ntmps6
    go_wp2_with (go_at_call 8; refine (light_any _ _ _ _).mono ?_; rintro e w' ⟨rfl, rfl⟩; rw [decide_eq_false hl])
    refine (awake_any _).mono ?_
    rintro e w3 ⟨rfl, hb3⟩
    go_wp2_with fail
    go_ret
    exact ⟨rfl, hb3⟩
end Go.Proofs.Ytopdplehnknbiaa

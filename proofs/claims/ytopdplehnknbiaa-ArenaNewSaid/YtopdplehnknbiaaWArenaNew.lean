/- The walk of ArenaNew. -/
import Derived.Test.YtopdplehnknbiaaArena2
import Derived.Test.YtopdplehnknbiaaASame
namespace Go.Proofs.Ytopdplehnknbiaa
open Go.ChangeShapes Go.WideShapes Go.RowKit Words

theorem walkArenaNew {H : Type} {enc : TypeId × Value → H} (W : World) (base : Nat) {v0 v1 v2 : Value} {d0 d1 d2 : DataW H} {p0 p1 p2 : List MemPlace}
    (o0 : Value.okWide Try.prog W .any base 3 v0) (h0 : DataW.Trod enc Try.prog W 0 (fun _ => true) true 3 v0 d0 p0)
    (o1 : Value.okWide Try.prog W .any base 22 v1) (h1 : DataW.Trod enc Try.prog W 0 (fun _ => true) true 22 v1 d1 p1)
    (o2 : Value.okWide Try.prog W .any base 23 v2) (h2 : DataW.Trod enc Try.prog W 0 (fun _ => true) true 23 v2 d2 p2) :
    Calls Try.prog 3 #[v0, v1, v2] W fun e w' => e = .returned (.bool true) ∧ Below W.heap.size W w' := by
  obtain ⟨m, rfl, hm0, hm1⟩ := open_i64 Try.underlying3 o0 h0
  obtain ⟨A, n, c, l, rfl, hr⟩ := open_words Try.underlying22 Try.underlying23 (by kernel_rfl) o1 h1
  obtain ⟨a, rfl⟩ := open_word Try.underlying23 o2 h2
  clear h0 o0 h1 o1 h2 o2
  obtain ⟨y, er, hf⟩ : ∃ y er, newW m = (y, er) := by rcases newW m with ⟨z, er⟩; exact ⟨z, er, rfl⟩
  obtain ⟨ix, e2, hx⟩ : ∃ y er, indexW n (U a) = (y, er) := by rcases indexW n (U a) with ⟨z, er⟩; exact ⟨z, er, rfl⟩
  have HF := Lib.hid hf
  have HX := Lib.hid hx
  have M0 := Lib.hid hm0
  have M1 := Lib.hid hm1
  have hn : Hid (n ≤ 1000000 ∨ ¬ n ≤ 500) := Lib.hid (by omega)
  clear hf hx hm0 hm1
  by_cases hl : n ≤ 500
  · have hN : n ≤ 1000000 := by omega
    go_enter Try.func3, Try.ntmps3
    go_wp2_with (go_at_call 8; refine (light_any _ _ _ _).mono ?_; rintro e w' ⟨rfl, rfl⟩; rw [decide_eq_true hl])
    refine (new_any m _ M0.out M1.out).mono ?_
    rw [HF.out]
    rintro e w1 ⟨A1, c1, rfl, hr1, hb1⟩
    dsimp only at hr1 ⊢
    go_wp2_with fail
    refine (rnew_any m _ M0.out M1.out).mono ?_
    rw [HF.out]
    rintro e w2 ⟨A2, c2, rfl, hr2, hb2⟩
    dsimp only at hr2 ⊢
    go_wp2_with fail
    refine (index_any A n c a _ hN).mono ?_
    rw [HX.out]
    rintro e w3 ⟨rfl, rfl⟩
    unfold retII
    dsimp only
    go_wp2_with fail
    refine (rindex_any A n c a _ hN).mono ?_
    rw [HX.out]
    rintro e w3 ⟨rfl, rfl⟩
    unfold retII
    dsimp only
    go_wp2_with fail
    refine (awake_any _).mono ?_
    rintro e w3 ⟨rfl, hb3⟩
    go_wp2_with fail
    refine (same_any _ _ _ _ _ _ _ _ _ ((hr1.belowU hb2).belowU hb3) (hr2.belowU hb3)).mono ?_
    rintro e w4 ⟨rfl, mm, rfl⟩
    rw [decide_eq_true rfl]
    go_wp2_with fail
    go_ret
    exact ⟨rfl, below_drewN (keep_below hb3 (keep_below hb2 hb1)) _⟩
  · go_enter Try.func3, Try.ntmps3
    go_wp2_with (go_at_call 8; refine (light_any _ _ _ _).mono ?_; rintro e w' ⟨rfl, rfl⟩; rw [decide_eq_false hl])
    go_ret
    exact ⟨rfl, Below.refl _ _⟩
end Go.Proofs.Ytopdplehnknbiaa

/- The walk of BitsUnpacks. -/
import Derived.Test.YtcjmaodfeokbaaaAwake
import Derived.Test.YtcjmaodfeokbaaaRef
namespace Go.Proofs.Ytcjmaodfeokbaaa
open Go.ChangeShapes Go.WideShapes Go.RowKit Words

theorem walkBitsUnpacks {H : Type} {enc : TypeId × Value → H} (W : World) (base : Nat) {v0 v1 : Value} {d0 d1 : DataW H} {p0 p1 : List MemPlace}
    (o0 : Value.okWide Try.prog W .any base 23 v0) (h0 : DataW.Trod enc Try.prog W 0 (fun _ => true) true 23 v0 d0 p0)
    (o1 : Value.okWide Try.prog W .any base 39 v1) (h1 : DataW.Trod enc Try.prog W 0 (fun _ => true) true 39 v1 d1 p1) :
    Calls Try.prog 7 #[v0, v1] W fun e w' => e = .returned (.bool true) ∧ Below W.heap.size W w' := by
  obtain ⟨x, rfl⟩ := open_word Try.underlying23 o0 h0
  obtain ⟨A, n, c, l, rfl, hr, _⟩ := open_i64s Try.underlying39 Try.underlying3 (by kernel_rfl) o1 h1
  clear h0 o0 h1 o1
  have hcap := hr.cap
  have hle := hr.le
  unfold maxLen at hcap
  by_cases hn : 100 < n
  · go_enter Try.func7, Try.ntmps7
    go_wp2_with fail
    go_ret
    exact ⟨rfl, Below.refl _ _⟩
  · go_enter Try.func7, Try.ntmps7
    go_wp2_with fail
    refine (unpack_any x A n c l _ hr).mono ?_
    rintro e w1 ⟨A1, c1, rfl, hr1, hb1⟩
    go_wp2_with fail
    refine (runpack_any x A n c l _ (hr.belowU hb1)).mono ?_
    rintro e w2 ⟨A2, c2, rfl, hr2, hb2⟩
    go_wp2_with fail
    refine (awake_any _).mono ?_
    rintro e w3 ⟨rfl, hb3⟩
    have s1 := hb1.size
    have s2 := hb2.size
    have s3 := hb3.size
    have hra := hr1.belowU (hb2.trans (hb3.mono s2))
    have hrb := hr2.belowU hb3
    go_wp2_with fail
    refine (same_any _ _ _ _ _ _ _ _ _ hra hrb).mono ?_
    rintro e w4 ⟨rfl, m, rfl⟩
    rw [decide_eq_true rfl]
    go_wp2
    go_ret
    exact ⟨rfl, below_drewN ((hb1.trans (hb2.mono s1)).trans (hb3.mono (by omega))) _⟩
end Go.Proofs.Ytcjmaodfeokbaaa

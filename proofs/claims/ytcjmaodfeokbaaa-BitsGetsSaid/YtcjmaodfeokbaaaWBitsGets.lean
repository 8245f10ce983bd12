/- The walk of BitsGets. -/
import Derived.Test.YtcjmaodfeokbaaaAwake
import Derived.Test.YtcjmaodfeokbaaaOpen
import Derived.Test.YtcjmaodfeokbaaaGet
namespace Go.Proofs.Ytcjmaodfeokbaaa
open Go.RowKit Words

theorem walkBitsGets {H : Type} {enc : TypeId × Value → H} (W : World) (base : Nat) {v0 v1 v2 v3 : Value} {d0 d1 d2 d3 : DataW H} {p0 p1 p2 p3 : List MemPlace}
    (o0 : Value.okWide Try.prog W .any base 23 v0) (h0 : DataW.Trod enc Try.prog W 0 (fun _ => true) true 23 v0 d0 p0)
    (o1 : Value.okWide Try.prog W .any base 23 v1) (h1 : DataW.Trod enc Try.prog W 0 (fun _ => true) true 23 v1 d1 p1)
    (o2 : Value.okWide Try.prog W .any base 3 v2) (h2 : DataW.Trod enc Try.prog W 0 (fun _ => true) true 3 v2 d2 p2)
    (o3 : Value.okWide Try.prog W .any base 3 v3) (h3 : DataW.Trod enc Try.prog W 0 (fun _ => true) true 3 v3 d3 p3) :
    Calls Try.prog 5 #[v0, v1, v2, v3] W fun e w' => e = .returned (.bool true) ∧ Below W.heap.size W w' := by
  obtain ⟨w, rfl⟩ := open_word Try.underlying23 o0 h0
  obtain ⟨v, rfl⟩ := open_word Try.underlying23 o1 h1
  obtain ⟨i, rfl, hi1, hi2⟩ := open_i64 Try.underlying3 o2 h2
  obtain ⟨n, rfl, _, _⟩ := open_i64 Try.underlying3 o3 h3
  clear h0 o0 h1 o1 h2 o2 h3 o3
  go_enter Try.func5, Try.ntmps5
  go_wp2_with (first
    | (go_at_call 9; refine (awake_any _).mono ?_; rintro e w1 ⟨rfl, hb⟩)
    | (go_at_call 15; refine (get_any _ _ _ _).mono ?_; rintro e w' ⟨rfl, m, rfl⟩; unfold retW)
    | (go_at_call 16; refine (rget_any _ _ _ _ (by assumption) (by assumption)).mono ?_; rintro e w' ⟨rfl, rfl⟩; unfold retW)
    | (go_at_call 17; refine (set_any _ _ _ _ _).mono ?_; rintro e w' ⟨rfl, m, rfl⟩; unfold retW)
    | (go_at_call 18; refine (rset_any _ _ _ _ _ (by assumption) (by assumption)).mono ?_; rintro e w' ⟨rfl, rfl⟩; unfold retW))
  go_ret
  exact ⟨rfl, (below_drewN (Below.refl _ _) _).trans hb⟩
end Go.Proofs.Ytcjmaodfeokbaaa

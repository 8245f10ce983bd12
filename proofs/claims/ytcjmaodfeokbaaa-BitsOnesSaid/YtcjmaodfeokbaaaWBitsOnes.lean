/- The walk of BitsOnes. -/
import Derived.Test.YtcjmaodfeokbaaaAwake
import Derived.Test.YtcjmaodfeokbaaaOpen
namespace Go.Proofs.Ytcjmaodfeokbaaa
open Go.RowKit Words

theorem walkBitsOnes {H : Type} {enc : TypeId × Value → H} (W : World) (base : Nat) {v0 : Value} {d0 : DataW H} {p0 : List MemPlace}
    (o0 : Value.okWide Try.prog W .any base 3 v0) (h0 : DataW.Trod enc Try.prog W 0 (fun _ => true) true 3 v0 d0 p0) :
    Calls Try.prog 3 #[v0] W fun e w' => e = .returned (.bool true) ∧ Below W.heap.size W w' := by
  obtain ⟨n, rfl, _, _⟩ := open_i64 Try.underlying3 o0 h0
  clear h0 o0
  go_enter Try.func3, Try.ntmps3
  go_wp2_with (first
    | (go_at_call 9; refine (awake_any _).mono ?_; rintro e w1 ⟨rfl, hb⟩)
    | (go_at_call 10; refine (ones_any _ _).mono ?_; rintro e w' ⟨rfl, rfl⟩)
    | (go_at_call 11; refine (rones_any _ _).mono ?_; rintro e w' ⟨rfl, rfl⟩))
  go_ret
  exact ⟨rfl, hb⟩
end Go.Proofs.Ytcjmaodfeokbaaa

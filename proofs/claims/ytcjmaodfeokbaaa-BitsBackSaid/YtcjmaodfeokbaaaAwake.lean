/- The sanity check of the laws on words. -/
import Derived.Test.YtcjmaodfeokbaaaPack
namespace Go.Proofs.Ytcjmaodfeokbaaa
open Go.RowKit Words

theorem awake_any (w : World) : Calls Try.prog 9 #[] w fun e w' => e = .returned (.bool true) ∧ Below w.heap.size w w' := by
  have hr : Reads (w.alloc (.cells #[.int .i64 4, .int .u64 9, .int .i64 8, .int .u64 1] 47)) (w.heap.size + 1) 2 (some ⟨w.heap.size, 0, none⟩) 2 2 ([((4 : Int), 9#64), ((8 : Int), 1#64)].flatMap fieldCells) :=
    Reads.fresh w _ _ 2 2 rfl (by unfold maxLen; omega)
  have hp : pack [((4 : Int), 9#64), ((8 : Int), 1#64)] = (25#64, 0) := by decide
  have HP := Lib.hid hp
  clear hp
  go_enter Try.func9, Try.ntmps9
  go_wp2_with fail
  refine (pack_any _ _ _ _ _ (hr.more (by simp))).mono ?_
  rintro e w' ⟨rfl, hb⟩
  rw [HP.out]
  unfold retW
  go_wp2_with fail
  go_ret
  exact ⟨rfl, ((Below.refl _ _).alloc (Nat.le_refl _) _).trans (hb.mono (by simp))⟩
end Go.Proofs.Ytcjmaodfeokbaaa

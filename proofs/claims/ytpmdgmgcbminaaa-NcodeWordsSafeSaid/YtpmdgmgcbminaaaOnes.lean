/- The contract of Ones: the word of n bits 1. -/
import Derived.Test.YtpmdgmgcbminaaaRows
import Derived.Test.YtpmdgmgcbminaaaWords
import Derived.Handy
import Derived.Lib.Hide
namespace Go.Proofs.Ytpmdgmgcbminaaa
open Go.RowKit Words

attribute [local go_sem ↓] Words.bits_or_one Words.shl_one Words.dbl_one

theorem ret_u {x y : BitVec 64} (h : x = y) : Ending.returned (.int .u64 (U x)) = .returned (.int .u64 (U y)) := by rw [h]

theorem ones_any (n : Int) (w : World) :
    Calls Try.prog 46 #[.int .i64 n] w fun e w' => e = .returned (.int .u64 (U (ones n.toNat))) ∧ w = w' := by
  go_enter Try.func46, Try.ntmps46
  go_wp2_with fail
  all_goals
    go_loop [3, 7] (fun x i => ∃ k : Nat, k ≤ min n.toNat 64 ∧ i = .int .i64 k ∧ x = .int .u64 (U (ones k))) (fun _ i => 64 - (intOf i).toNat)
    case atStart => exact ⟨0, Nat.zero_le _, rfl, rfl⟩
    case round =>
      obtain ⟨k, hk, rfl, rfl⟩ := hrel
      by_cases hlt : k < min n.toNat 64
      · go_wp2
        all_goals
          go_round
          case rel => exact ⟨k + 1, by omega, by go_num, by rw [ones_shl]; omega⟩
          case measure => simp [intOf]; omega
      · have h : ones k = ones n.toNat := by
          by_cases h64 : n.toNat ≤ 64
          · rw [show k = n.toNat by omega]
          · rw [ones_big n.toNat (by omega), show k = 64 by omega]
        have H := Lib.hid h
        clear h
        go_wp2
        go_ret
        exact ⟨ret_u H.out, rfl⟩

end Go.Proofs.Ytpmdgmgcbminaaa

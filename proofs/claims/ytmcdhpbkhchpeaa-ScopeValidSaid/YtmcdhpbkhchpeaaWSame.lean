/- The contract of Same: whether two lists of words are the same. -/
import Derived.Test.YtmcdhpbkhchpeaaOpen
import Derived.WalkSpells
import Derived.BigQuiet
import Derived.Deep.QuietTactic
namespace Go.Proofs.Ytmcdhpbkhchpeaa
open Go.RowKit Words

theorem sw_ret {x y : Bool} (h : x = y) : Ending.returned (.bool x) = .returned (.bool y) := by rw [h]
theorem samew_any (A A' : Option Addr) (n n' c c' : Nat) (l l' : List (BitVec 64)) (w : World) (h : Reads w w.heap.size 1 A n c (l.flatMap wordCells)) (h' : Reads w w.heap.size 1 A' n' c' (l'.flatMap wordCells)) :
    Calls Try.prog 16 #[.slice A n c, .slice A' n' c'] w fun e w' => e = .returned (.bool (decide (l = l'))) ∧ ∃ m, w' = w.drewN m := by
  have hlen := h.length (fun _ => rfl) (by omega)
  have hcap := h.cap
  have hle := h.le
  have hlen' := h'.length (fun _ => rfl) (by omega)
  have hcap' := h'.cap
  have hle' := h'.le
  unfold maxLen at hcap hcap'
  by_cases hn : n = n'
  · subst hn
    have HL := Lib.hid hlen
    have HL' := Lib.hid hlen'
    clear hlen hlen'
    go_enter Try.func16, Try.ntmps16
    go_wp2_with fail
    go_loopw [5] (fun i wr => ∃ k m : Nat, k ≤ n ∧ i = .int .i64 k ∧ wr = w.drewN m ∧ (l = l' ↔ l.drop k = l'.drop k)) (fun i _ => n - (intOf i).toNat)
    case atStart => exact ⟨0, 0, Nat.zero_le _, rfl, rfl, Iff.rfl⟩
    case round =>
      obtain ⟨k, m, hk, rfl, rfl, hspec⟩ := hrel
      by_cases hlt : k < n
      · obtain ⟨b, off, a, rfl, hbb, ha, hc⟩ := h.elem (fun _ => rfl) (by omega) hlt
        have c0 := hc 0 _ rfl
        rw [Nat.mul_one, Nat.add_zero] at c0
        obtain ⟨b', off', a', rfl, hbb', ha', hc'⟩ := h'.elem (fun _ => rfl) (by omega) hlt
        have c0' := hc' 0 _ rfl
        rw [Nat.mul_one, Nat.add_zero] at c0'
        rw [drop_at ha, drop_at ha'] at hspec
        have H := Lib.hid hspec
        clear hspec ha hc ha' hc'
        have hk0 : (0 : Int) ≤ (k : Int) := by omega
        have hk1 : (k : Int) < (n : Int) := by omega
        by_cases he : a = a'
        · have he' : (U a != U a') = false := by rw [he]; simp
          have HE := Lib.hid he
          clear he
          go_wp2_with fail
          go_quiet (fail)
          go_wp2
          go_roundw
          case rel => exact ⟨k + 1, _, by omega, by go_num, rfl, by rw [H.out, HE.out]; simp⟩
          case measure => simp [intOf]; omega
        · have he' : (U a != U a') = true := by
            rw [bne_iff_ne]
            exact fun e => he (U_inj e)
          have HE := Lib.hid he
          clear he
          go_wp2_with fail
          go_quiet (fail)
          go_wp2
          go_ret
          exact ⟨sw_ret (by rw [eq_comm, decide_eq_false_iff_not, H.out]; simp [HE.out]), _, World.drewN_drewN _ _ _⟩
      · have hend := drop_end HL.out hlt
        have hend' := drop_end HL'.out hlt
        rw [hend, hend'] at hspec
        have H := Lib.hid (hspec.2 rfl)
        clear hspec hend hend'
        go_wp2_with fail
        go_ret
        exact ⟨sw_ret (by rw [eq_comm, decide_eq_true_eq]; exact H.out), _, rfl⟩
  · have hll : ¬ l = l' := fun e => hn (by rw [← hlen, ← hlen', e])
    have HLL := Lib.hid hll
    have hn1 : ((n : Int) != (n' : Int)) = true := by simp; omega
    clear hll hlen hlen'
    go_enter Try.func16, Try.ntmps16
    go_wp2_with fail
    go_ret
    exact ⟨sw_ret (by simp [HLL.out]), 0, rfl⟩
end Go.Proofs.Ytmcdhpbkhchpeaa

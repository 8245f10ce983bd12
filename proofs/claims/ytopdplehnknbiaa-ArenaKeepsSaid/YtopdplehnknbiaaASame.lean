/- The contract of Same: whether two lists of words are the same. -/
import Derived.Test.YtopdplehnknbiaaArena
namespace Go.Proofs.Ytopdplehnknbiaa
open Go.RowKit Words

theorem same_any (A A' : Option Addr) (n n' c c' : Nat) (l l' : List (BitVec 64)) (w : World) (h : Reads w w.heap.size 1 A n c (l.flatMap wordCells)) (h' : Reads w w.heap.size 1 A' n' c' (l'.flatMap wordCells)) :
    Calls Try.prog 14 #[.slice A n c, .slice A' n' c'] w fun e w' => e = .returned (.bool (decide (l = l'))) ∧ ∃ m, w' = w.drewN m := by
  have hlen := h.length (fun _ => rfl) (by omega)
  have hcap := h.cap
  have hle := h.le
  have hlen' := h'.length (fun _ => rfl) (by omega)
  have hcap' := h'.cap
  have hle' := h'.le
  unfold maxLen at hcap hcap'
  by_cases hn : n = n'
  · subst hn
    have HL := Lib.hid hlen
    have HL' := Lib.hid hlen'
    clear hlen hlen'
    go_enter Try.func14, Try.ntmps14
    go_wp2_with fail
    go_loopw [5] (fun i wr => ∃ k m : Nat, k ≤ n ∧ i = .int .i64 k ∧ wr = w.drewN m ∧ (l = l' ↔ l.drop k = l'.drop k)) (fun i _ => n - (intOf i).toNat)
    case atStart => exact ⟨0, 0, Nat.zero_le _, rfl, rfl, Iff.rfl⟩
    case round =>
      obtain ⟨k, m, hk, rfl, rfl, hspec⟩ := hrel
      by_cases hlt : k < n
      · obtain ⟨b, off, a, rfl, hbb, ha, hc⟩ := h.elem (fun _ => rfl) (by omega) hlt
        have c0 := hc 0 _ rfl
        rw [Nat.mul_one, Nat.add_zero] at c0
        obtain ⟨b', off', a', rfl, hbb', ha', hc'⟩ := h'.elem (fun _ => rfl) (by omega) hlt
        have c0' := hc' 0 _ rfl
        rw [Nat.mul_one, Nat.add_zero] at c0'
        rw [drop_at ha, drop_at ha'] at hspec
        have H := Lib.hid hspec
        clear hspec ha hc ha' hc'
        have hk0 : (0 : Int) ≤ (k : Int) := by omega
        have hk1 : (k : Int) < (n : Int) := by omega
        by_cases he : a = a'
        · have he' : (U a != U a') = false := by rw [he]; simp
          have HE := Lib.hid he
          clear he
          go_wp2_with fail
          go_quiet (fail)
          go_wp2
          go_roundw
          case rel => exact ⟨k + 1, _, by omega, by go_num, rfl, by rw [H.out, HE.out]; simp⟩
          case measure => simp [intOf]; omega
        · have he' : (U a != U a') = true := by
            rw [bne_iff_ne]
            exact fun e => he (U_inj e)
          have HE := Lib.hid he
          clear he
          go_wp2_with fail
          go_quiet (fail)
          go_wp2
          go_ret
          exact ⟨ret_b (by rw [eq_comm, decide_eq_false_iff_not, H.out]; simp [HE.out]), _, World.drewN_drewN _ _ _⟩
      · have hend := drop_end HL.out hlt
        have hend' := drop_end HL'.out hlt
        rw [hend, hend'] at hspec
        have H := Lib.hid (hspec.2 rfl)
        clear hspec hend hend'
        go_wp2_with fail
        go_ret
        exact ⟨ret_b (by rw [eq_comm, decide_eq_true_eq]; exact H.out), _, rfl⟩
  · have hll : ¬ l = l' := fun e => hn (by rw [← hlen, ← hlen', e])
    have HLL := Lib.hid hll
    have hn1 : ((n : Int) != (n' : Int)) = true := by simp; omega
    clear hll hlen hlen'
    go_enter Try.func14, Try.ntmps14
    go_wp2_with fail
    go_ret
    exact ⟨ret_b (by simp [HLL.out]), 0, rfl⟩
/-- the same as a fact about later worlds -/
theorem light_any (A : Option Addr) (n c : Nat) (w : World) : Calls Try.prog 8 #[.slice A n c] w fun e w' => e = .returned (.bool (decide (n ≤ 500))) ∧ w = w' := by
  by_cases h : n ≤ 500
  · have H := Lib.hid h
    clear h
    have hd : decide ((n : Int) ≤ 500) = true := by have := H.out; simp; omega
    go_enter Try.func8, Try.ntmps8
    go_wp2
    go_ret
    exact ⟨ret_b (by simp [H.out]), rfl⟩
  · have H := Lib.hid h
    clear h
    have hd : decide ((n : Int) ≤ 500) = false := by have := H.out; simp; omega
    go_enter Try.func8, Try.ntmps8
    go_wp2
    go_ret
    exact ⟨ret_b (by simp [H.out]), rfl⟩

theorem awake_any (w : World) : Calls Try.prog 13 #[] w fun e w' => e = .returned (.bool true) ∧ Below w.heap.size w w' := by
  have hr : Reads (w.alloc (.cells #[.int .u64 7, .int .u64 8] 23)) (w.alloc (.cells #[.int .u64 7, .int .u64 8] 23)).heap.size 1 (some ⟨w.heap.size, 0, none⟩) 2 2 (([7#64, 8#64] : List (BitVec 64)).flatMap wordCells) :=
    Reads.freshAs w _ _ 1 2 _ rfl rfl (by decide)
  have hp : loadW [7#64, 8#64] (U 4097#64) = (8#64, 0) := by decide
  have HP := Lib.hid hp
  clear hp
  go_enter Try.func13, Try.ntmps13
  go_wp2_with fail
  refine (load_any _ _ _ [7#64, 8#64] 4097#64 _ hr (by omega)).mono ?_
  rw [HP.out]
  rintro e w' ⟨rfl, rfl⟩
  unfold retW
  have hu : (U 8#64 == 8) = true := rfl
  go_wp2_with fail
  go_ret
  exact ⟨rfl, keep_alloc (Below.refl _ _) _⟩
end Go.Proofs.Ytopdplehnknbiaa

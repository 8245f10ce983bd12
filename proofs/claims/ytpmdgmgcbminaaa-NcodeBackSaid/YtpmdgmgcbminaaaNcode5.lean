/- The contract of the comparison of programs. PRINTED BY A PROGRAM (mk_ncode5.py). -/
import Derived.Test.YtpmdgmgcbminaaaNcode1
namespace Go.Proofs.Ytpmdgmgcbminaaa
open Go.RowKit Words

set_option maxHeartbeats 2000000 in
theorem nsame_any (g g' : Int) (A A' : Option Addr) (n n' c c' : Nat) (l l' : List NI) (w : World) (h : Reads w w.heap.size 5 A n c (l.flatMap insCells)) (h' : Reads w w.heap.size 5 A' n' c' (l'.flatMap insCells)) :
    Calls Try.prog 19 #[codeV g A n c, codeV g' A' n' c'] w fun e w' => e = .returned (.bool (decide (g = g' ∧ l = l'))) ∧ Below w.heap.size w w' := by
  have hlen := h.length insCells_len (by omega)
  have hcap := h.cap
  have hle := h.le
  have hlen' := h'.length insCells_len (by omega)
  have hcap' := h'.cap
  have hle' := h'.le
  unfold maxLen at hcap hcap'
  have hW : Below w.heap.size w ((w.alloc (.cells #[.int .i64 g, .slice A n c] 27)).alloc (.cells #[.int .i64 g', .slice A' n' c'] 27)) := keep_alloc (code_alloc w _ g A n c) _
  by_cases hg : g = g'
  · subst hg
    by_cases hn : n = n'
    · subst hn
      have HL := Lib.hid hlen
      have HL' := Lib.hid hlen'
      clear hlen hlen'
      have P0 := (Blk.new w #[.int .i64 g, .slice A n c] 27).alloc (.cells #[.int .i64 g, .slice A' n c'] 27)
      have P1 := Blk.newAt (w.alloc (.cells #[.int .i64 g, .slice A n c] 27)) #[.int .i64 g, .slice A' n c'] 27 (w.heap.size + 1) (by simp)
      have c0 := P0.cell 1 _ rfl
      have c0' := P1.cell 1 _ rfl
      have hnn : ((n : Int) != (n : Int)) = false := by simp
      have hgg : (g != g) = false := by simp
      go_enter Try.func19, Try.ntmps19
      go_wp2_with fail
      obtain ⟨w1, hw1⟩ : ∃ w1, (w.alloc (.cells #[.int .i64 g, .slice A n c] 27)).alloc (.cells #[.int .i64 g, .slice A' n c'] 27) = w1 := ⟨_, rfl⟩
      rw [hw1] at c0 c0' hW ⊢
      have a1 := h.below hW
      have a1' := h'.below hW
      clear hw1 P0 P1
      go_loopw [5] (fun i wr => ∃ k m : Nat, k ≤ n ∧ i = .int .i64 k ∧ wr = w1.drewN m ∧ (l = l' ↔ l.drop k = l'.drop k)) (fun i _ => n - (intOf i).toNat)
      case atStart => exact ⟨0, 0, Nat.zero_le _, rfl, rfl, Iff.rfl⟩
      case round =>
        obtain ⟨k, m, hk, rfl, rfl, hspec⟩ := hrel
        by_cases hlt : k < n
        · obtain ⟨b, off, x, rfl, hbb, hx, hc⟩ := a1.elem insCells_len (by omega) hlt
          have d0 := hc 0 _ rfl
          have d1 := hc 1 _ rfl
          have d2 := hc 2 _ rfl
          have d3 := hc 3 _ rfl
          have d4 := hc 4 _ rfl
          rw [Nat.add_zero] at d0
          obtain ⟨b', off', x', rfl, hbb', hx', hc'⟩ := a1'.elem insCells_len (by omega) hlt
          have e0 := hc' 0 _ rfl
          have e1 := hc' 1 _ rfl
          have e2 := hc' 2 _ rfl
          have e3 := hc' 3 _ rfl
          have e4 := hc' 4 _ rfl
          rw [Nat.add_zero] at e0
          rw [drop_at hx, drop_at hx'] at hspec
          have H := Lib.hid hspec
          clear hspec hx hc hx' hc'
          have hk0 : (0 : Int) ≤ (k : Int) := by omega
          have hk1 : (k : Int) < (n : Int) := by omega
          obtain ⟨p0, p1, p2, p3, p4⟩ := x
          obtain ⟨r0, r1, r2, r3, r4⟩ := x'
          dsimp only at d0 d1 d2 d3 d4 e0 e1 e2 e3 e4
          by_cases t0 : p0 = r0
          case neg =>
            have bx : (p0 == r0) = false := by simp [t0]
            have HD := Lib.hid (show ¬ (⟨p0, p1, p2, p3, p4⟩ : NI) = ⟨r0, r1, r2, r3, r4⟩ by simp [t0])
            clear t0
            go_wp2_with fail
            go_quiet (fail)
            go_wp2
            go_ret
            exact ⟨ret_nb (by rw [eq_comm, decide_eq_false_iff_not, H.out]; rintro ⟨-, e⟩; injection e with e1 e2; exact HD.out e1), below_drewN (below_drewN hW _) _⟩
          subst t0
          have b0 : (p0 == p0) = true := by simp
          by_cases t1 : p1 = r1
          case neg =>
            have bx : (p1 == r1) = false := by simp [t1]
            have HD := Lib.hid (show ¬ (⟨p0, p1, p2, p3, p4⟩ : NI) = ⟨p0, r1, r2, r3, r4⟩ by simp [t1])
            clear t1
            go_wp2_with fail
            go_quiet (fail)
            go_wp2
            go_ret
            exact ⟨ret_nb (by rw [eq_comm, decide_eq_false_iff_not, H.out]; rintro ⟨-, e⟩; injection e with e1 e2; exact HD.out e1), below_drewN (below_drewN hW _) _⟩
          subst t1
          have b1 : (p1 == p1) = true := by simp
          by_cases t2 : p2 = r2
          case neg =>
            have bx : (p2 == r2) = false := by simp [t2]
            have HD := Lib.hid (show ¬ (⟨p0, p1, p2, p3, p4⟩ : NI) = ⟨p0, p1, r2, r3, r4⟩ by simp [t2])
            clear t2
            go_wp2_with fail
            go_quiet (fail)
            go_wp2
            go_ret
            exact ⟨ret_nb (by rw [eq_comm, decide_eq_false_iff_not, H.out]; rintro ⟨-, e⟩; injection e with e1 e2; exact HD.out e1), below_drewN (below_drewN hW _) _⟩
          subst t2
          have b2 : (p2 == p2) = true := by simp
          by_cases t3 : p3 = r3
          case neg =>
            have bx : (p3 == r3) = false := by simp [t3]
            have HD := Lib.hid (show ¬ (⟨p0, p1, p2, p3, p4⟩ : NI) = ⟨p0, p1, p2, r3, r4⟩ by simp [t3])
            clear t3
            go_wp2_with fail
            go_quiet (fail)
            go_wp2
            go_ret
            exact ⟨ret_nb (by rw [eq_comm, decide_eq_false_iff_not, H.out]; rintro ⟨-, e⟩; injection e with e1 e2; exact HD.out e1), below_drewN (below_drewN hW _) _⟩
          subst t3
          have b3 : (p3 == p3) = true := by simp
          by_cases t4 : p4 = r4
          case neg =>
            have bx : (U p4 == U r4) = false := by rw [U_eq]; simp [t4]
            have HD := Lib.hid (show ¬ (⟨p0, p1, p2, p3, p4⟩ : NI) = ⟨p0, p1, p2, p3, r4⟩ by simp [t4])
            clear t4
            go_wp2_with fail
            go_quiet (fail)
            go_wp2
            go_ret
            exact ⟨ret_nb (by rw [eq_comm, decide_eq_false_iff_not, H.out]; rintro ⟨-, e⟩; injection e with e1 e2; exact HD.out e1), below_drewN (below_drewN hW _) _⟩
          subst t4
          have b4 : (U p4 == U p4) = true := by simp
          go_wp2_with fail
          go_quiet (fail)
          go_wp2
          go_roundw
          case rel => exact ⟨k + 1, _, by omega, by go_num, rfl, by rw [H.out]; simp⟩
          case measure => simp [intOf]; omega
        · have hend := drop_end HL.out hlt
          have hend' := drop_end HL'.out hlt
          rw [hend, hend'] at hspec
          have H := Lib.hid (hspec.2 rfl)
          clear hspec hend hend'
          go_wp2_with fail
          go_ret
          exact ⟨ret_nb (by rw [eq_comm, decide_eq_true_eq]; first | exact ⟨rfl, H.out⟩ | exact ⟨trivial, H.out⟩), below_drewN hW _⟩
    · have hll : ¬ l = l' := fun e => hn (by rw [← hlen, ← hlen', e])
      have HLL := Lib.hid hll
      have hn1 : ((n : Int) != (n' : Int)) = true := by simp; omega
      have hgg : (g != g) = false := by simp
      clear hll hlen hlen' hn
      go_enter Try.func19, Try.ntmps19
      go_wp2_with fail
      go_ret
      exact ⟨ret_nb (by rw [eq_comm, decide_eq_false_iff_not]; exact fun e => HLL.out e.2), hW⟩
  · have hgg : (g != g') = true := by simp [hg]
    have HG := Lib.hid hg
    clear hg hlen hlen'
    go_enter Try.func19, Try.ntmps19
    go_wp2_with fail
    go_ret
    exact ⟨ret_nb (by rw [eq_comm, decide_eq_false_iff_not]; exact fun e => HG.out e.1), hW⟩
end Go.Proofs.Ytpmdgmgcbminaaa

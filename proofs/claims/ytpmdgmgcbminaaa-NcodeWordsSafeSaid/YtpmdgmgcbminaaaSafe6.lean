/- Small functions of the reference: raw, pair, words, ways; and next of the program. -/
import Derived.Test.YtpmdgmgcbminaaaSafe5
namespace Go.Proofs.Ytpmdgmgcbminaaa
open Go.ChangeShapes Go.WideShapes Go.RowKit Words

theorem raw_any (n : Int) (w : World) : Calls Try.prog 52 #[.int .i64 n] w fun e w' => e = .returned (.bool (decide (2 ≤ n))) ∧ w = w' := by
  go_enter Try.func52, Try.ntmps52
  go_wp2_with fail
  go_ret
  exact ⟨rfl, rfl⟩
theorem raw_val (n : Int) (b : Bool) (h : decide (2 ≤ n) = b) (w : World) : Calls Try.prog 52 #[.int .i64 n] w fun e w' => e = .returned (.bool b) ∧ w = w' := h ▸ raw_any n w
/-- the reference's pair, of numbers -/
def pairI (op b c : Int) : Int × Bool :=
  if op = 3 then (if decide (2 ≤ b) && (c == 0) then (b, true) else if (b == 0) && decide (2 ≤ c) then (c, true) else (0, (b == 0) && (c == 0)))
  else if op = 4 then (if decide (2 ≤ b) && (c == 0) then (b, true) else (0, (b == c) && (b != 1)))
  else if op = 8 then (0, (b == c) && (b != 1))
  else (0, (b == 0) && (c == 0))
set_option linter.unusedSimpArgs false in
set_option maxHeartbeats 4000000 in
theorem pair_any (op b c : Int) (ho : 3 ≤ op ∧ op ≤ 8) (w : World) :
    Calls Try.prog 51 #[.int .i64 op, .int .i64 b, .int .i64 c] w fun e w' => e = .returned (.tuple #[.int .i64 (pairI op b c).1, .bool (pairI op b c).2]) ∧ w = w' := by
  obtain ⟨rb, hrb⟩ : ∃ r, decide (2 ≤ b) = r := ⟨_, rfl⟩
  obtain ⟨rc, hrc⟩ : ∃ r, decide (2 ≤ c) = r := ⟨_, rfl⟩
  obtain ⟨zb, hzb⟩ : ∃ r, (b == 0) = r := ⟨_, rfl⟩
  obtain ⟨zc, hzc⟩ : ∃ r, (c == 0) = r := ⟨_, rfl⟩
  obtain ⟨bc, hbc⟩ : ∃ r, (b == c) = r := ⟨_, rfl⟩
  obtain ⟨nb, hnb⟩ : ∃ r, (b != 1) = r := ⟨_, rfl⟩
  have H1 : pairI 3 b c = if rb && zc then (b, true) else if zb && rc then (c, true) else (0, zb && zc) := by
    subst hrb hrc hzb hzc
    unfold pairI
    rw [if_pos rfl]
  have H2 : pairI 4 b c = if rb && zc then (b, true) else (0, bc && nb) := by
    subst hrb hzc hbc hnb
    unfold pairI
    rw [if_neg (by decide), if_pos rfl]
  have H3 : pairI 8 b c = (0, bc && nb) := by
    subst hbc hnb
    unfold pairI
    rw [if_neg (by decide), if_neg (by decide), if_pos rfl]
  have H4 : ∀ o : Int, o = 5 ∨ o = 6 ∨ o = 7 → pairI o b c = (0, zb && zc) := by
    subst hzb hzc
    intro o ho
    unfold pairI
    rw [if_neg (by omega), if_neg (by omega), if_neg (by omega)]
  have K1 := Lib.hid H1
  have K2 := Lib.hid H2
  have K3 := Lib.hid H3
  have K5 := Lib.hid (H4 5 (by omega))
  have K6 := Lib.hid (H4 6 (by omega))
  have K7 := Lib.hid (H4 7 (by omega))
  clear H1 H2 H3 H4
  have hop : op = 3 ∨ op = 4 ∨ op = 5 ∨ op = 6 ∨ op = 7 ∨ op = 8 := by omega
  clear ho
  rcases hop with rfl | rfl | rfl | rfl | rfl | rfl
  · rw [K1.out]
    clear K1 K2 K3 K5 K6 K7 hbc hnb
    cases rb <;> cases zc <;> cases zb <;> cases rc
    all_goals
      go_enter Try.func51, Try.ntmps51
      go_wp2_with (go_at_call 52; refine (raw_val _ _ (by assumption) _).mono ?_; rintro e w' ⟨rfl, rfl⟩)
      refine bodyPost_ret (v := .tuple #[.int .i64 _, .bool _]) (by simp [results, Try.results51]; exact ⟨rfl, rfl⟩) rfl ?_
      exact ⟨rfl, rfl⟩
  · rw [K2.out]
    clear K1 K2 K3 K5 K6 K7 hrc hzb
    cases rb <;> cases zc <;> cases bc <;> cases nb
    all_goals
      go_enter Try.func51, Try.ntmps51
      go_wp2_with (go_at_call 52; refine (raw_val _ _ (by assumption) _).mono ?_; rintro e w' ⟨rfl, rfl⟩)
      refine bodyPost_ret (v := .tuple #[.int .i64 _, .bool _]) (by simp [results, Try.results51]; exact ⟨rfl, rfl⟩) rfl ?_
      exact ⟨rfl, rfl⟩
  · rw [K5.out]
    clear K1 K2 K3 K5 K6 K7 hrb hrc hbc hnb
    cases zb <;> cases zc
    all_goals
      go_enter Try.func51, Try.ntmps51
      go_wp2_with fail
      refine bodyPost_ret (v := .tuple #[.int .i64 _, .bool _]) (by simp [results, Try.results51]; exact ⟨rfl, rfl⟩) rfl ?_
      exact ⟨rfl, rfl⟩
  · rw [K6.out]
    clear K1 K2 K3 K5 K6 K7 hrb hrc hbc hnb
    cases zb <;> cases zc
    all_goals
      go_enter Try.func51, Try.ntmps51
      go_wp2_with fail
      refine bodyPost_ret (v := .tuple #[.int .i64 _, .bool _]) (by simp [results, Try.results51]; exact ⟨rfl, rfl⟩) rfl ?_
      exact ⟨rfl, rfl⟩
  · rw [K7.out]
    clear K1 K2 K3 K5 K6 K7 hrb hrc hbc hnb
    cases zb <;> cases zc
    all_goals
      go_enter Try.func51, Try.ntmps51
      go_wp2_with fail
      refine bodyPost_ret (v := .tuple #[.int .i64 _, .bool _]) (by simp [results, Try.results51]; exact ⟨rfl, rfl⟩) rfl ?_
      exact ⟨rfl, rfl⟩
  · rw [K3.out]
    clear K1 K2 K3 K5 K6 K7 hrb hrc hzb hzc
    cases bc <;> cases nb
    all_goals
      go_enter Try.func51, Try.ntmps51
      go_wp2_with fail
      refine bodyPost_ret (v := .tuple #[.int .i64 _, .bool _]) (by simp [results, Try.results51]; exact ⟨rfl, rfl⟩) rfl ?_
      exact ⟨rfl, rfl⟩
end Go.Proofs.Ytpmdgmgcbminaaa

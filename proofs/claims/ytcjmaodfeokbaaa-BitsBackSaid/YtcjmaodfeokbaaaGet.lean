/- The contracts of Get and Set. -/
import Derived.Test.YtcjmaodfeokbaaaPack
import Derived.Test.YtcjmaodfeokbaaaROnes
import Derived.BigQuiet
import Derived.Deep.QuietTactic
namespace Go.Proofs.Ytcjmaodfeokbaaa
open Go.RowKit Words

attribute [local go_sem ↓] Words.bits_or_one Words.bits_or Words.bits_and Words.bits_andNot Words.shr_any Words.shl_any Words.wrap_U

theorem quiet_l {P : Program} {f : FuncId} {args : Array Value} {w : World} {n : Nat} {v : Value}
    (h : Calls P f args (w.drewN n) fun e w' => e = .returned v ∧ w.drewN n = w') : Calls P f args (w.drewN n) fun e w'' => e = .returned v ∧ ∃ m, w'' = w.drewN m :=
  h.mono fun _ _ ⟨he, hm⟩ => ⟨he, n, hm.symm⟩

def spn (i n : Int) : Bool := decide (0 ≤ i) && decide (0 ≤ n) && decide (i ≤ 64) && decide (n ≤ 64 - i)
theorem spn_iff (i n : Int) : spn i n = true ↔ 0 ≤ i ∧ 0 ≤ n ∧ i ≤ 64 ∧ n ≤ 64 - i := by
  simp [spn, and_assoc]
def getS (w : BitVec 64) (i n : Int) : BitVec 64 × Int := if spn i n = true then ((w >>> i.toNat) &&& ones n.toNat, 0) else (0#64, 1)
def setS (w : BitVec 64) (i n : Int) (v : BitVec 64) : BitVec 64 × Int :=
  if spn i n = true then (if (v &&& ~~~ones n.toNat == 0#64) = true then ((w &&& ~~~(ones n.toNat <<< i.toNat)) ||| (v <<< i.toNat), 0) else (0#64, 2)) else (0#64, 1)

theorem spans_any (i n : Int) (w : World) :
    Calls Try.prog 24 #[.int .i64 i, .int .i64 n] w fun e w' => e = .returned (.bool (spn i n)) ∧ w = w' := by
  go_enter Try.func24, Try.ntmps24
  go_wp2
  all_goals
    go_ret
    exact ⟨ret_b (by simp [spn]; omega), rfl⟩
theorem may_any (i n : Int) (w : World) :
    Calls Try.prog 25 #[.int .i64 i, .int .i64 n] w fun e w' => e = .returned (.bool (spn i n)) ∧ w = w' := by
  go_enter Try.func25, Try.ntmps25
  go_wp2
  all_goals
    go_ret
    exact ⟨ret_b (by simp [spn]; omega), rfl⟩

theorem get_any (v : BitVec 64) (i n : Int) (w : World) :
    Calls Try.prog 15 #[.int .u64 (U v), .int .i64 i, .int .i64 n] w fun e w' => e = retW (getS v i n) ∧ ∃ m, w' = w.drewN m := by
  by_cases h : spn i n = true
  · obtain ⟨h0, h1, h2, h3⟩ := (spn_iff i n).1 h
    go_enter Try.func15, Try.ntmps15
    go_wp2_with (go_at_call 24; refine (spans_any _ _ _).mono ?_; rintro e w' ⟨rfl, rfl⟩)
    go_quiet ((go_at_call 10; exact quiet_l (ones_any _ _)))
    go_wp2
    go_ret2
    exact ⟨by unfold retW getS; rw [if_pos h]; rfl, _, rfl⟩
  · simp only [Bool.not_eq_true] at h
    go_enter Try.func15, Try.ntmps15
    go_wp2_with (go_at_call 24; refine (spans_any _ _ _).mono ?_; rintro e w' ⟨rfl, rfl⟩)
    go_ret2
    exact ⟨by unfold retW getS; rw [h]; rfl, 0, rfl⟩
theorem rget_any (v : BitVec 64) (i n : Int) (w : World) (hi : i ≤ 9223372036854775807) (hi' : -9223372036854775808 ≤ i) :
    Calls Try.prog 16 #[.int .u64 (U v), .int .i64 i, .int .i64 n] w fun e w' => e = retW (getS v i n) ∧ w = w' := by
  by_cases h : spn i n = true
  · obtain ⟨h0, h1, h2, h3⟩ := (spn_iff i n).1 h
    go_enter Try.func16, Try.ntmps16
    go_wp2_with (first | (go_at_call 25; refine (may_any _ _ _).mono ?_; rintro e w' ⟨rfl, rfl⟩) | (go_at_call 11; refine (rones_any _ _).mono ?_; rintro e w' ⟨rfl, rfl⟩))
    go_ret2
    exact ⟨by unfold retW getS; rw [if_pos h]; rfl, rfl⟩
  · simp only [Bool.not_eq_true] at h
    go_enter Try.func16, Try.ntmps16
    go_wp2_with (go_at_call 25; refine (may_any _ _ _).mono ?_; rintro e w' ⟨rfl, rfl⟩)
    go_ret2
    exact ⟨by unfold retW getS; rw [h]; rfl, rfl⟩

theorem set_any (v : BitVec 64) (i n : Int) (x : BitVec 64) (w : World) :
    Calls Try.prog 17 #[.int .u64 (U v), .int .i64 i, .int .i64 n, .int .u64 (U x)] w fun e w' => e = retW (setS v i n x) ∧ ∃ m, w' = w.drewN m := by
  by_cases h : spn i n = true
  · obtain ⟨h0, h1, h2, h3⟩ := (spn_iff i n).1 h
    by_cases hf : (x &&& ~~~ones n.toNat == 0#64) = true
    · go_enter Try.func17, Try.ntmps17
      go_wp2_with (first | (go_at_call 24; refine (spans_any _ _ _).mono ?_; rintro e w' ⟨rfl, rfl⟩) | (go_at_call 22; refine (fits_any _ _ _).mono ?_; rintro e w' ⟨rfl, rfl⟩))
      go_quiet ((go_at_call 10; exact quiet_l (ones_any _ _)))
      go_wp2
      go_ret2
      exact ⟨by unfold retW setS; rw [if_pos h, if_pos hf]; rfl, _, rfl⟩
    · simp only [Bool.not_eq_true] at hf
      go_enter Try.func17, Try.ntmps17
      go_wp2_with (first | (go_at_call 24; refine (spans_any _ _ _).mono ?_; rintro e w' ⟨rfl, rfl⟩) | (go_at_call 22; refine (fits_any _ _ _).mono ?_; rintro e w' ⟨rfl, rfl⟩))
      go_ret2
      exact ⟨by unfold retW setS; rw [if_pos h, hf]; rfl, 0, rfl⟩
  · simp only [Bool.not_eq_true] at h
    go_enter Try.func17, Try.ntmps17
    go_wp2_with (go_at_call 24; refine (spans_any _ _ _).mono ?_; rintro e w' ⟨rfl, rfl⟩)
    go_ret2
    exact ⟨by unfold retW setS; rw [h]; rfl, 0, rfl⟩

theorem rset_any (v : BitVec 64) (i n : Int) (x : BitVec 64) (w : World) (hi : i ≤ 9223372036854775807) (hi' : -9223372036854775808 ≤ i) :
    Calls Try.prog 18 #[.int .u64 (U v), .int .i64 i, .int .i64 n, .int .u64 (U x)] w fun e w' => e = retW (setS v i n x) ∧ w = w' := by
  by_cases h : spn i n = true
  · obtain ⟨h0, h1, h2, h3⟩ := (spn_iff i n).1 h
    by_cases hf : (x &&& ~~~ones n.toNat == 0#64) = true
    · have hg : (U (x &&& ones n.toNat) != U x) = false := by
        rw [U_ne]
        have := (fits_iff x (ones n.toNat)).1 (by simpa using hf)
        simp [this]
      have HF := Lib.hid hf
      clear hf
      go_enter Try.func18, Try.ntmps18
      go_wp2_with (first | (go_at_call 25; refine (may_any _ _ _).mono ?_; rintro e w' ⟨rfl, rfl⟩) | (go_at_call 11; refine (rones_any _ _).mono ?_; rintro e w' ⟨rfl, rfl⟩))
      go_ret2
      exact ⟨by unfold retW setS; rw [if_pos h, if_pos HF.out]; rfl, rfl⟩
    · have hg : (U (x &&& ones n.toNat) != U x) = true := by
        rw [U_ne]
        have := mt (fits_iff x (ones n.toNat)).2 (by simpa using hf)
        simpa using this
      simp only [Bool.not_eq_true] at hf
      have HF := Lib.hid hf
      clear hf
      go_enter Try.func18, Try.ntmps18
      go_wp2_with (first | (go_at_call 25; refine (may_any _ _ _).mono ?_; rintro e w' ⟨rfl, rfl⟩) | (go_at_call 11; refine (rones_any _ _).mono ?_; rintro e w' ⟨rfl, rfl⟩))
      go_ret2
      exact ⟨by unfold retW setS; rw [if_pos h, HF.out]; rfl, rfl⟩
  · simp only [Bool.not_eq_true] at h
    go_enter Try.func18, Try.ntmps18
    go_wp2_with (go_at_call 25; refine (may_any _ _ _).mono ?_; rintro e w' ⟨rfl, rfl⟩)
    go_ret2
    exact ⟨by unfold retW setS; rw [h]; rfl, rfl⟩
end Go.Proofs.Ytcjmaodfeokbaaa

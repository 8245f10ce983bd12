/- The comparison of two arrays of two numbers. -/
import Derived.Test.YtmcdhpbkhchpeaaOpen
import Derived.ChangeKeysEq
namespace Go.Proofs.Ytmcdhpbkhchpeaa
open Go.RowKit Words

theorem run_pair (w : World) (a b c d : Int) : ∃ r : Bool, (Op.equal 51 (.agg #[.int .i64 a, .int .i64 b]) (.agg #[.int .i64 c, .int .i64 d])).run Try.prog w = .ok r w ∧ (r = true ↔ a = c ∧ b = d) := by
  have hC : Try.prog.cellsOf 3 = 1 := by kernel_rfl
  have he : Try.prog.plainKey 3 = true := by kernel_rfl
  obtain ⟨i, hi⟩ : ∃ i, Try.prog.info? 3 = some i := Option.isSome_iff_exists.1 (by kernel_rfl)
  have h1 := run_equalIn_array (P := Try.prog) w 9999 (t := 51) (e := 3) (n := 2) #[.int .i64 a, .int .i64 b] #[.int .i64 c, .int .i64 d] Try.underlying51 hi
  have p0 := run_part_plain (P := Try.prog) w he (xs := #[.int .i64 a, .int .i64 b]) (off := 0) (v := .int .i64 a) rfl
  have p1 := run_part_plain (P := Try.prog) w he (xs := #[.int .i64 a, .int .i64 b]) (off := 1) (v := .int .i64 b) rfl
  have q0 := run_part_plain (P := Try.prog) w he (xs := #[.int .i64 c, .int .i64 d]) (off := 0) (v := .int .i64 c) rfl
  have q1 := run_part_plain (P := Try.prog) w he (xs := #[.int .i64 c, .int .i64 d]) (off := 1) (v := .int .i64 d) rfl
  have hq0 : ∀ (n : Nat) (x y : Int), (Op.equalIn (n + 1) 3 (.int .i64 x) (.int .i64 y)).run Try.prog w = .ok (x == y) w := fun n x y => by
    simp [Op.equalIn, run_underlying Try.underlying3]
  have hq : ∀ x y : Int, (Op.equalIn 9999 3 (.int .i64 x) (.int .i64 y)).run Try.prog w = .ok (x == y) w := hq0 9998
  refine ⟨(a == c) && (b == d), ?_, by simp⟩
  refine h1.trans ?_
  rw [hC]
  show (Op.eqItems 9999 3 1 #[.int .i64 a, .int .i64 b] #[.int .i64 c, .int .i64 d] [0, 1]).run Try.prog w = _
  cases h : (a == c)
  · simp [Op.eqItems, p0, q0, hq, h]
  · cases h2 : (b == d)
    · simp [Op.eqItems, p0, q0, p1, q1, hq, h, h2]
    · simp [Op.eqItems, p0, q0, p1, q1, hq, h, h2]
theorem pair_ne {a b c d : Int} (h : ¬ (a = c ∧ b = d)) (w : World) : (Op.equalIn 10000 51 (.agg #[.int .i64 a, .int .i64 b]) (.agg #[.int .i64 c, .int .i64 d])).run Try.prog w = .ok false w := by
  obtain ⟨r, hr, hiff⟩ := run_pair w a b c d
  cases r
  · exact hr
  · exact absurd (hiff.1 rfl) h
theorem pair_eq (w : World) (a b : Int) : (Op.equalIn 10000 51 (.agg #[.int .i64 a, .int .i64 b]) (.agg #[.int .i64 a, .int .i64 b])).run Try.prog w = .ok true w := by
  obtain ⟨r, hr, hiff⟩ := run_pair w a b a b
  cases r
  · exact absurd (hiff.2 ⟨rfl, rfl⟩) (by simp)
  · exact hr
end Go.Proofs.Ytmcdhpbkhchpeaa

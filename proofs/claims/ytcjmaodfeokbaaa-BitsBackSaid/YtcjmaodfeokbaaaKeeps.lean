/- Plain laws of Get and Set on words: no program in sight. -/
import Derived.Test.YtcjmaodfeokbaaaWords
namespace Go.Proofs.Ytcjmaodfeokbaaa.Words

theorem fits_bit {v : BitVec 64} {n : Nat} (h : v &&& ~~~ones n = 0#64) (k : Nat) (hk : n ≤ k) : v.getLsbD k = false := by
  by_cases h64 : k < 64
  · have := congrArg (fun b => b.getLsbD k) h
    simp only [BitVec.getLsbD_and, BitVec.getLsbD_not, getLsbD_ones, h64, decide_true, Bool.true_and, Bool.and_true, BitVec.getLsbD_zero] at this
    have hn : ¬ k < n := by omega
    simpa [hn] using this
  · exact BitVec.getLsbD_of_ge _ _ (by omega)

theorem get_set (w v : BitVec 64) (i n : Nat) (hi : i + n ≤ 64) (h : v &&& ~~~ones n = 0#64) :
    (((w &&& ~~~(ones n <<< i)) ||| (v <<< i)) >>> i) &&& ones n = v := by
  apply BitVec.eq_of_getLsbD_eq
  intro k hk
  simp only [BitVec.getLsbD_and, BitVec.getLsbD_or, BitVec.getLsbD_not, BitVec.getLsbD_ushiftRight, BitVec.getLsbD_shiftLeft, getLsbD_ones, hk, decide_true, Bool.and_true]
  by_cases hn : k < n
  · have h1 : i + k < 64 := by omega
    have h2 : ¬ i + k < i := by omega
    have h3 : i + k - i = k := by omega
    simp [hn, h1, h3, hk, h2]
  · rw [fits_bit h k (by omega)]
    simp [hn]

theorem keep_bit (w v : BitVec 64) (i n k : Nat) (hk : k < 64) (ho : ¬ (i ≤ k ∧ k < i + n)) (h : v &&& ~~~ones n = 0#64) :
    (((w &&& ~~~(ones n <<< i)) ||| (v <<< i)) >>> k) &&& 1#64 = (w >>> k) &&& 1#64 := by
  apply BitVec.eq_of_getLsbD_eq
  intro j hj
  simp only [BitVec.getLsbD_and, BitVec.getLsbD_or, BitVec.getLsbD_not, BitVec.getLsbD_ushiftRight, BitVec.getLsbD_shiftLeft, getLsbD_ones, BitVec.getLsbD_one]
  by_cases h0 : j = 0
  · subst h0
    simp only [Nat.add_zero, hk, decide_true, Bool.true_and]
    by_cases h1 : k < i
    · simp [h1]
    · have h2 : n ≤ k - i := by omega
      have h3 : ¬ k - i < n := by omega
      simp [h1, h3, fits_bit h (k - i) h2]
  · simp [h0]
end Go.Proofs.Ytcjmaodfeokbaaa.Words

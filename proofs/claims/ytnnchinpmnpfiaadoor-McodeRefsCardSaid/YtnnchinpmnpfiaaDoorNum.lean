/- Plain laws: words as numbers. -/
import Derived.Test.YtnnchinpmnpfiaaDoorWords
namespace Go.Proofs.YtnnchinpmnpfiaaDoor.Words

theorem U_and_ones (x : BitVec 64) (n : Nat) (h : n ≤ 64) : U (x &&& ones n) = U x % 2 ^ n := by
  unfold U
  rw [BitVec.toNat_and, toNat_ones n h, Nat.and_two_pow_sub_one_eq_mod]
  simp
theorem U_ones (n : Nat) (h : n ≤ 64) : U (ones n) = 2 ^ n - 1 := by
  unfold U
  rw [toNat_ones n h, Int.natCast_sub (Nat.two_pow_pos n)]
  simp
theorem U_shr (x : BitVec 64) (n : Nat) : U (x >>> n) = U x / 2 ^ n := (shr_U x n).symm
theorem fits_lt (v : BitVec 64) (n : Nat) (h : n ≤ 64) : (v &&& ~~~ones n == 0#64) = decide (U v < 2 ^ n) := by
  rw [Bool.eq_iff_iff, beq_iff_eq, decide_eq_true_eq, fits_iff]
  have hp : (0 : Int) < 2 ^ n := Int.pow_pos (by decide)
  constructor
  · intro e
    have := U_and_ones v n h
    rw [e] at this
    rw [this]
    exact Int.emod_lt_of_pos _ hp
  · intro e
    apply U_inj
    rw [U_and_ones v n h]
    exact Int.emod_eq_of_lt (U_nonneg v) e
theorem U_or_shl (a b : BitVec 64) (i : Nat) (ha : U a < 2 ^ i) (hb : U b * 2 ^ i < 18446744073709551616) : U (a ||| b <<< i) = U a + U b * 2 ^ i := by
  unfold U at *
  have ha' : a.toNat < 2 ^ i := by exact_mod_cast ha
  have hb' : b.toNat * 2 ^ i < 2 ^ 64 := by
    have : ((b.toNat * 2 ^ i : Nat) : Int) < 18446744073709551616 := by simpa using hb
    omega
  rw [BitVec.toNat_or, BitVec.toNat_shiftLeft, Nat.shiftLeft_eq, Nat.mod_eq_of_lt hb', Nat.or_comm, Nat.mul_comm, ← Nat.two_pow_add_eq_or_of_lt ha']
  simp
  rw [Int.add_comm, Int.mul_comm]
theorem U_ofInt (n : Int) (h0 : 0 ≤ n) (h1 : n < 18446744073709551616) : U (BitVec.ofInt 64 n) = n := by
  have := wrap_ofInt n
  rw [← this]
  exact IntWalk.u64_in n ⟨h0, by omega⟩
theorem bits_and_3 (x : BitVec 64) : bits .and .u64 (U x) 3 = U x % 4 := by
  rw [show (3 : Int) = U (ones 2) from rfl, bits_and, U_and_ones x 2 (by omega)]; rfl
theorem bits_and_15 (x : BitVec 64) : bits .and .u64 (U x) 15 = U x % 16 := by
  rw [show (15 : Int) = U (ones 4) from rfl, bits_and, U_and_ones x 4 (by omega)]; rfl
theorem bits_and_255 (x : BitVec 64) : bits .and .u64 (U x) 255 = U x % 256 := by
  rw [show (255 : Int) = U (ones 8) from rfl, bits_and, U_and_ones x 8 (by omega)]; rfl
theorem bits_and_4095 (x : BitVec 64) : bits .and .u64 (U x) 4095 = U x % 4096 := by
  rw [show (4095 : Int) = U (ones 12) from rfl, bits_and, U_and_ones x 12 (by omega)]; rfl
theorem bits_and_65535 (x : BitVec 64) : bits .and .u64 (U x) 65535 = U x % 65536 := by
  rw [show (65535 : Int) = U (ones 16) from rfl, bits_and, U_and_ones x 16 (by omega)]; rfl
end Go.Proofs.YtnnchinpmnpfiaaDoor.Words

/- Plain laws of words of 64 bits, as bit vectors: no program in sight. -/
import Derived.WalkKit
namespace Go.Proofs.YtnnchinpmnpfiaaDoor.Words

/-- the word of n bits 1 -/
def ones (n : Nat) : BitVec 64 := BitVec.ofNat 64 (2 ^ min n 64 - 1)

theorem getLsbD_ones (n i : Nat) : (ones n).getLsbD i = (decide (i < n) && decide (i < 64)) := by
  unfold ones
  rw [BitVec.getLsbD_ofNat, Nat.testBit_two_pow_sub_one]
  by_cases h1 : i < n <;> by_cases h2 : i < 64 <;> simp [h1, h2] <;> omega

theorem ones_zero : ones 0 = 0#64 := rfl

theorem ones_shl (k : Nat) (h : k < 64) : (ones k <<< 1) ||| 1#64 = ones (k + 1) := by
  apply BitVec.eq_of_getLsbD_eq
  intro i hi
  simp only [BitVec.getLsbD_or, BitVec.getLsbD_shiftLeft, getLsbD_ones, BitVec.getLsbD_one, hi, decide_true, Bool.true_and, Bool.and_true]
  by_cases h0 : i = 0
  · subst h0; simp
  · by_cases h1 : i < k + 1
    · have h2 : i - 1 < k := by omega
      have h3 : i - 1 < 64 := by omega
      have h4 : ¬ i < 1 := by omega
      simp [h1, h2, h3, h4]
    · have h2 : ¬ i - 1 < k := by omega
      simp [h1, h2, h0]

theorem toNat_ones (k : Nat) (h : k ≤ 64) : (ones k).toNat = 2 ^ k - 1 := by
  unfold ones
  rw [BitVec.toNat_ofNat, Nat.min_eq_left h]
  apply Nat.mod_eq_of_lt
  have : 2 ^ k ≤ 2 ^ 64 := Nat.pow_le_pow_right (by decide) h
  have : 0 < 2 ^ k := Nat.two_pow_pos k
  omega

theorem ones_dbl (k : Nat) (h : k < 64) : 2#64 * ones k + 1#64 = ones (k + 1) := by
  apply BitVec.eq_of_toNat_eq
  have h1 : 2 ^ (k + 1) = 2 * 2 ^ k := by rw [Nat.pow_succ]; omega
  have h2 : 2 ^ (k + 1) ≤ 2 ^ 64 := Nat.pow_le_pow_right (by decide) h
  have h3 : 0 < 2 ^ k := Nat.two_pow_pos k
  rw [BitVec.toNat_add, BitVec.toNat_mul, toNat_ones k (by omega), toNat_ones (k + 1) (by omega), h1]
  simp only [BitVec.toNat_ofNat]
  omega

theorem ones_big (n : Nat) (h : 64 ≤ n) : ones n = ones 64 := by
  unfold ones; rw [Nat.min_eq_right h]; rfl

/-- the two tests for 'at most n bits' are one -/
theorem fits_iff (v m : BitVec 64) : v &&& ~~~m = 0#64 ↔ v &&& m = v := by
  constructor
  · intro h
    apply BitVec.eq_of_getLsbD_eq
    intro i hi
    have := congrArg (fun b => b.getLsbD i) h
    simp only [BitVec.getLsbD_and, BitVec.getLsbD_not, hi, decide_true, Bool.true_and, BitVec.getLsbD_zero] at this ⊢
    cases hv : v.getLsbD i <;> cases hm : m.getLsbD i <;> simp_all
  · intro h
    apply BitVec.eq_of_getLsbD_eq
    intro i hi
    have := congrArg (fun b => b.getLsbD i) h
    simp only [BitVec.getLsbD_and, BitVec.getLsbD_not, hi, decide_true, Bool.true_and, BitVec.getLsbD_zero] at this ⊢
    cases hv : v.getLsbD i <;> cases hm : m.getLsbD i <;> simp_all

/-! ### how the walk spells operations on words: 'U x' is the number of the word x; simp does not look into it -/
def U (x : BitVec 64) : Int := x.toNat
theorem U_range (x : BitVec 64) : 0 ≤ U x ∧ U x < 18446744073709551616 := by
  have := x.isLt
  unfold U; omega
theorem U_nonneg (x : BitVec 64) : 0 ≤ U x := (U_range x).1
theorem U_inj {x y : BitVec 64} (h : U x = U y) : x = y := by
  unfold U at h
  apply BitVec.eq_of_toNat_eq
  omega
theorem U_eq (x y : BitVec 64) : (U x == U y) = (x == y) := by
  rw [Bool.eq_iff_iff]
  simp only [beq_iff_eq]
  exact ⟨U_inj, congrArg U⟩
theorem U_ne (x y : BitVec 64) : (U x != U y) = (x != y) := by
  show (!(U x == U y)) = !(x == y)
  rw [U_eq]
theorem U_ofNat (n : Nat) (h : n < 18446744073709551616) : U (BitVec.ofNat 64 n) = (n : Int) := by
  unfold U
  rw [BitVec.toNat_ofNat, Nat.mod_eq_of_lt (by simpa using h)]
theorem U_wf (x : BitVec 64) : (Lit.int .u64 (U x)).wf = true := by
  have := U_range x
  exact WalkArith.wf_u64 (by omega)
theorem U_of (n : Int) (h : (Lit.int .u64 n).wf = true) : ∃ x : BitVec 64, n = U x := by
  have hr : 0 ≤ n ∧ n ≤ 18446744073709551615 := by
    simp [Lit.wf, IntKind.min, IntKind.max, IntKind.signed, IntKind.bits] at h
    omega
  refine ⟨BitVec.ofNat 64 n.toNat, ?_⟩
  rw [U_ofNat _ (by omega)]
  omega
theorem wrap_U (x : BitVec 64) : IntKind.u64.wrap (U x) = U x := by
  have := U_range x
  apply IntWalk.u64_in
  omega
theorem wrap_ofInt (n : Int) : IntKind.u64.wrap n = U (BitVec.ofInt 64 n) := by
  unfold U
  rw [BitVec.toNat_ofInt]
  simp [IntKind.wrap, IntKind.bits, IntKind.signed]
  omega
theorem ofInt_U (x : BitVec 64) : BitVec.ofInt 64 (U x) = x := by
  unfold U
  rw [BitVec.ofInt_natCast]; simp
theorem bits_and (x y : BitVec 64) : bits .and .u64 (U x) (U y) = U (x &&& y) := by
  show IntKind.u64.wrap (U ((BitVec.ofInt 64 (U x)) &&& (BitVec.ofInt 64 (U y)))) = _
  rw [ofInt_U, ofInt_U, wrap_U]
theorem bits_or (x y : BitVec 64) : bits .or .u64 (U x) (U y) = U (x ||| y) := by
  show IntKind.u64.wrap (U ((BitVec.ofInt 64 (U x)) ||| (BitVec.ofInt 64 (U y)))) = _
  rw [ofInt_U, ofInt_U, wrap_U]
theorem bits_andNot (x y : BitVec 64) : bits .andNot .u64 (U x) (U y) = U (x &&& ~~~y) := by
  show IntKind.u64.wrap (U ((BitVec.ofInt 64 (U x)) &&& ~~~(BitVec.ofInt 64 (U y)))) = _
  rw [ofInt_U, ofInt_U, wrap_U]
theorem bits_or_one (x : BitVec 64) : bits .or .u64 (U x) 1 = U (x ||| 1#64) := bits_or x 1#64
theorem bits_and_one (x : BitVec 64) : bits .and .u64 (U x) 1 = U (x &&& 1#64) := bits_and x 1#64
theorem dbl_one (x : BitVec 64) : IntKind.u64.wrap (IntKind.u64.wrap (2 * U x) + 1) = U (2#64 * x + 1#64) := by
  rw [wrap_ofInt, wrap_ofInt]
  have h : BitVec.ofInt 64 (U (BitVec.ofInt 64 (2 * U x)) + 1) = 2#64 * x + 1#64 := by
    rw [BitVec.ofInt_add, ofInt_U, BitVec.ofInt_mul, ofInt_U]
    rfl
  rw [h]

theorem shr_U (x : BitVec 64) (n : Nat) : U x / 2 ^ n = U (x >>> n) := by
  unfold U
  rw [BitVec.toNat_ushiftRight, Nat.shiftRight_eq_div_pow]
  simp
theorem shl_U (x : BitVec 64) (n : Nat) : IntKind.u64.wrap (U x * 2 ^ n) = U (x <<< n) := by
  rw [wrap_ofInt]
  congr 1
  apply BitVec.eq_of_toNat_eq
  unfold U
  rw [BitVec.toNat_ofInt, BitVec.toNat_shiftLeft, Nat.shiftLeft_eq]
  have : ((x.toNat : Int) * 2 ^ n) = ((x.toNat * 2 ^ n : Nat) : Int) := by simp
  rw [this]
  norm_cast
theorem shr_any (yk : IntKind) (x : BitVec 64) (y : Int) (h : 0 ≤ y) : Op.shift .shr .u64 (U x) yk y = pure (.int .u64 (U (x >>> y.toNat))) := by
  rw [shift_shr_any _ _ _ _ h]
  have e : IntKind.u64.bits = 64 := rfl
  rw [e, shr_U]
  congr 3
  by_cases hy : y.toNat ≤ 64
  · rw [Nat.min_eq_left hy]
  · rw [Nat.min_eq_right (by omega), BitVec.ushiftRight_eq_zero (by omega), BitVec.ushiftRight_eq_zero (by omega)]
theorem shl_any (yk : IntKind) (x : BitVec 64) (y : Int) (h : 0 ≤ y) : Op.shift .shl .u64 (U x) yk y = pure (.int .u64 (U (x <<< y.toNat))) := by
  rw [shift_shl_any _ _ _ _ h]
  have e : IntKind.u64.bits = 64 := rfl
  rw [e, shl_U]
  congr 3
  by_cases hy : y.toNat ≤ 64
  · rw [Nat.min_eq_left hy]
  · rw [Nat.min_eq_right (by omega), BitVec.shiftLeft_eq_zero (by omega), BitVec.shiftLeft_eq_zero (by omega)]
theorem shl_one (yk : IntKind) (x : BitVec 64) : Op.shift .shl .u64 (U x) yk 1 = pure (.int .u64 (U (x <<< 1))) := shl_any yk x 1 (by omega)
end Go.Proofs.YtnnchinpmnpfiaaDoor.Words

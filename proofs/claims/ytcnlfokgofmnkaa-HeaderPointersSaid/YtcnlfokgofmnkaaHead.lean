/- The contracts of header's Valid, Encode and their references. -/
import Derived.Test.YtcnlfokgofmnkaaPack
import Derived.Test.YtcnlfokgofmnkaaNum
import Derived.BigQuiet
import Derived.Deep.QuietTactic
namespace Go.Proofs.Ytcnlfokgofmnkaa
open Go.RowKit Words

theorem quiet_l {P : Program} {f : FuncId} {args : Array Value} {w : World} {n : Nat} {v : Value}
    (h : Calls P f args (w.drewN n) fun e w' => e = .returned v ∧ w.drewN n = w') : Calls P f args (w.drewN n) fun e w'' => e = .returned v ∧ ∃ m, w'' = w.drewN m :=
  h.mono fun _ _ ⟨he, hm⟩ => ⟨he, n, hm.symm⟩

/-- which headers are valid -/
def validH (k len m : Int) : Bool := decide (0 ≤ k) && decide (k ≤ 3) && decide (0 ≤ len) && decide (len ≤ 255) && (if k = 1 then decide (len ≤ 32) && decide (m < 2 ^ len.toNat) else decide (m = 0))
abbrev headV (k len m : Int) : Value := .agg #[.int .i64 k, .int .i64 len, .int .u32 m]

theorem valid_any (k len m : Int) (w : World) (hm0 : 0 ≤ m) (hm1 : m ≤ 4294967295) :
    Calls Try.prog 12 #[headV k len m] w fun e w' => e = .returned (.bool (validH k len m)) ∧ Below w.heap.size w w' := by
  by_cases t0 : k < 0
  · go_enter Try.func12, Try.ntmps12
    go_wp2
    go_ret
    exact ⟨ret_b (by simp [validH]; omega), by go_grown⟩
  by_cases t1 : 3 < k
  · go_enter Try.func12, Try.ntmps12
    go_wp2
    go_ret
    exact ⟨ret_b (by simp [validH]; omega), by go_grown⟩
  by_cases t2 : len < 0
  · go_enter Try.func12, Try.ntmps12
    go_wp2
    go_ret
    exact ⟨ret_b (by simp [validH]; omega), by go_grown⟩
  by_cases t3 : 255 < len
  · go_enter Try.func12, Try.ntmps12
    go_wp2
    go_ret
    exact ⟨ret_b (by simp [validH]; omega), by go_grown⟩
  by_cases t4 : k = 1
  · subst t4
    by_cases t5 : len ≤ 32
    · have hu := U_ones len.toNat (by omega)
      have hp : (2 : Int) ^ len.toNat ≤ 2 ^ 32 := by exact_mod_cast Nat.pow_le_pow_right (by decide : 0 < 2) (by omega : len.toNat ≤ 32)
      have HU := Lib.hid hu
      have HP := Lib.hid hp
      clear hu hp
      go_enter Try.func12, Try.ntmps12
      go_wp2_with fail
      go_quiet ((go_at_call 28; exact quiet_l (ones_any _ _)))
      go_wp2
      go_ret
      refine ⟨ret_b ?_, below_drewN (by go_grown) _⟩
      have := HU.out
      have e : (m ≤ U (ones len.toNat)) ↔ m < 2 ^ len.toNat := by omega
      simp [validH, t5, e]
      omega
    · have t6 : decide (len ≤ 32) = false := by simpa using t5
      go_enter Try.func12, Try.ntmps12
      go_wp2_with fail
      go_quiet (fail)
      go_wp2
      go_ret
      exact ⟨ret_b (by simp [validH]; omega), below_drewN (by go_grown) _⟩
  · have t5 : (k == 1) = false := by simpa using t4
    go_enter Try.func12, Try.ntmps12
    go_wp2_with fail
    all_goals
      go_ret
      exact ⟨ret_b (by simp [validH, *]), by go_grown⟩

/-- the word of a header -/
def encH (k len m : Int) : BitVec 64 × Int := if validH k len m = true then (BitVec.ofInt 64 (1 + 4 * k + 16 * len + 65536 * m), 0) else (0#64, 1)

theorem pack_head (k len m : Int) (hk : 0 ≤ k ∧ k ≤ 3) (hl : 0 ≤ len ∧ len ≤ 255) (hm : 0 ≤ m ∧ m ≤ 4294967295) :
    pack [(2, 1#64), (2, BitVec.ofInt 64 k), (12, BitVec.ofInt 64 len), (32, BitVec.ofInt 64 m)] = (BitVec.ofInt 64 (1 + 4 * k + 16 * len + 65536 * m), 0) := by
  have u1 : U 1#64 = 1 := rfl
  have uk := U_ofInt k (by omega) (by omega)
  have ul := U_ofInt len (by omega) (by omega)
  have um := U_ofInt m (by omega) (by omega)
  have f1 : (1#64 &&& ~~~ones (2 : Int).toNat == 0#64) = true := by decide
  have f2 : (BitVec.ofInt 64 k &&& ~~~ones (2 : Int).toNat == 0#64) = true := by rw [fits_lt _ _ (by decide), uk]; simp; omega
  have f3 : (BitVec.ofInt 64 len &&& ~~~ones (12 : Int).toNat == 0#64) = true := by rw [fits_lt _ _ (by decide), ul]; simp; omega
  have f4 : (BitVec.ofInt 64 m &&& ~~~ones (32 : Int).toNat == 0#64) = true := by rw [fits_lt _ _ (by decide), um]; simp; omega
  have hw : wOk [(2, 1#64), (2, BitVec.ofInt 64 k), (12, BitVec.ofInt 64 len), (32, BitVec.ofInt 64 m)] 64 = true := by simp [wOk]
  have e1 : (0#64 ||| 1#64 <<< (0 : Int).toNat) = 1#64 := by decide
  have e2 := U_or_shl 1#64 (BitVec.ofInt 64 k) 2 (by rw [u1]; decide) (by rw [uk]; omega)
  rw [u1, uk] at e2
  have e3 := U_or_shl (1#64 ||| BitVec.ofInt 64 k <<< 2) (BitVec.ofInt 64 len) 4 (by rw [e2]; omega) (by rw [ul]; omega)
  rw [e2, ul] at e3
  have e4 := U_or_shl (1#64 ||| BitVec.ofInt 64 k <<< 2 ||| BitVec.ofInt 64 len <<< 4) (BitVec.ofInt 64 m) 16 (by rw [e3]; omega) (by rw [um]; omega)
  rw [e3, um] at e4
  have hv : (1#64 ||| BitVec.ofInt 64 k <<< 2 ||| BitVec.ofInt 64 len <<< 4) ||| BitVec.ofInt 64 m <<< 16 = BitVec.ofInt 64 (1 + 4 * k + 16 * len + 65536 * m) := by
    apply U_inj
    rw [e4, U_ofInt _ (by omega) (by omega)]
    omega
  unfold pack
  rw [if_pos hw]
  simp only [packGo, f1, f2, f3, f4, if_true, e1]
  rw [show (0 + 2 : Int).toNat = 2 from rfl, show (0 + 2 + 2 : Int).toNat = 4 from rfl, show (0 + 2 + 2 + 12 : Int).toNat = 16 from rfl, hv]
  rfl

attribute [local go_sem ↓] Words.wrap_U

theorem encode_any (k len m : Int) (w : World) (hm0 : 0 ≤ m) (hm1 : m ≤ 4294967295) :
    Calls Try.prog 9 #[headV k len m] w fun e w' => e = retW (encH k len m) ∧ Below w.heap.size w w' := by
  by_cases hv : validH k len m = true
  · have hr : 0 ≤ k ∧ k ≤ 3 ∧ 0 ≤ len ∧ len ≤ 255 := by
      simp only [validH, Bool.and_eq_true, decide_eq_true_eq] at hv
      exact ⟨hv.1.1.1.1, hv.1.1.1.2, hv.1.1.2, hv.1.2⟩
    obtain ⟨k0, k1, l0, l1⟩ := hr
    have HP := Lib.hid (pack_head k len m ⟨k0, k1⟩ ⟨l0, l1⟩ ⟨hm0, hm1⟩)
    have uk := Lib.hid (U_ofInt k (by omega) (by omega)).symm
    have ul := Lib.hid (U_ofInt len (by omega) (by omega)).symm
    have um := Lib.hid (U_ofInt m (by omega) (by omega)).symm
    have hcs : ([.int .i64 2, .int .u64 1, .int .i64 2, .int .u64 k, .int .i64 12, .int .u64 len, .int .i64 32, .int .u64 m] : List Value) = [((2 : Int), 1#64), (2, BitVec.ofInt 64 k), (12, BitVec.ofInt 64 len), (32, BitVec.ofInt 64 m)].flatMap fieldCells := by
      simp only [List.flatMap_cons, List.flatMap_nil, fieldCells, ← uk.out, ← ul.out, ← um.out, List.cons_append, List.nil_append]
      rfl
    have HC := Lib.hid hcs
    clear hcs
    go_enter Try.func9, Try.ntmps9
    go_wp2_with (go_at_call 12; refine (valid_any _ _ _ _ hm0 hm1).mono ?_; rintro e w1 ⟨rfl, hb⟩; obtain ⟨hc, hf⟩ := bcell hb)
    have hsz := hb.size
    simp at hsz
    have hr := Reads.freshAs w1 #[.int .i64 2, .int .u64 1, .int .i64 2, .int .u64 k, .int .i64 12, .int .u64 len, .int .i64 32, .int .u64 m] 46 2 4 _ HC.out rfl (by decide)
    refine (pack_any _ _ _ _ _ hr).mono ?_
    rintro e w2 ⟨rfl, hb2⟩
    rw [HP.out]
    unfold retW
    go_wp2_with fail
    go_ret2
    exact ⟨by unfold retW encH; rw [if_pos hv]; rfl, (((Below.refl _ _).alloc (Nat.le_refl _) _).trans (hb.mono (by simp))).trans (((Below.refl _ _).alloc (by omega) _).trans (hb2.mono (by simp; omega)))⟩
  · simp only [Bool.not_eq_true] at hv
    go_enter Try.func9, Try.ntmps9
    go_wp2_with (go_at_call 12; refine (valid_any _ _ _ _ hm0 hm1).mono ?_; rintro e w1 ⟨rfl, hb⟩)
    go_ret2
    exact ⟨by unfold retW encH; rw [hv]; rfl, ((Below.refl _ _).alloc (Nat.le_refl _) _).trans (hb.mono (by simp))⟩

theorem rvalid_any (k len m : Int) (w : World) (hm0 : 0 ≤ m) (hm1 : m ≤ 4294967295) :
    Calls Try.prog 13 #[headV k len m] w fun e w' => e = .returned (.bool (validH k len m)) ∧ Below w.heap.size w w' := by
  by_cases t0 : k < 0
  · go_enter Try.func13, Try.ntmps13
    go_wp2
    go_ret
    exact ⟨ret_b (by simp [validH]; omega), by go_grown⟩
  by_cases t1 : 3 < k
  · go_enter Try.func13, Try.ntmps13
    go_wp2
    go_ret
    exact ⟨ret_b (by simp [validH]; omega), by go_grown⟩
  by_cases t2 : len < 0
  · go_enter Try.func13, Try.ntmps13
    go_wp2
    go_ret
    exact ⟨ret_b (by simp [validH]; omega), by go_grown⟩
  by_cases t3 : 255 < len
  · go_enter Try.func13, Try.ntmps13
    go_wp2
    go_ret
    exact ⟨ret_b (by simp [validH]; omega), by go_grown⟩
  by_cases t4 : k = 1
  · subst t4
    by_cases t5 : len ≤ 32
    · go_enter Try.func13, Try.ntmps13
      go_wp2
      go_ret
      have hp : (2 : Int) ^ len.toNat ≤ 2 ^ 32 := by exact_mod_cast Nat.pow_le_pow_right (by decide : 0 < 2) (by omega : len.toNat ≤ 32)
      have hp0 : (0 : Int) < 2 ^ len.toNat := Int.pow_pos (by decide)
      have hw : IntKind.u64.wrap (2 ^ len.toNat) = 2 ^ len.toNat := IntWalk.u64_in _ ⟨by omega, by omega⟩
      exact ⟨ret_b (by rw [hw]; simp [validH, t5]; omega), by go_grown⟩
    · have t6 : decide (len ≤ 32) = false := by simpa using t5
      go_enter Try.func13, Try.ntmps13
      go_wp2
      go_ret
      exact ⟨ret_b (by simp [validH]; omega), by go_grown⟩
  · have t5 : (k != 1) = true := by simpa using t4
    go_enter Try.func13, Try.ntmps13
    go_wp2_with fail
    go_ret
    exact ⟨ret_b (by simp [validH, *]; rfl), by go_grown⟩

theorem retW_eq {a : Int} {x : BitVec 64} {e : Int} (h : a = U x) : Ending.returned (.tuple #[.int .u64 a, .int .i64 e]) = retW (x, e) := by subst h; rfl

theorem rencode_any (k len m : Int) (w : World) (hm0 : 0 ≤ m) (hm1 : m ≤ 4294967295) :
    Calls Try.prog 10 #[headV k len m] w fun e w' => e = retW (encH k len m) ∧ Below w.heap.size w w' := by
  by_cases hv : validH k len m = true
  · have hr : 0 ≤ k ∧ k ≤ 3 ∧ 0 ≤ len ∧ len ≤ 255 := by
      simp only [validH, Bool.and_eq_true, decide_eq_true_eq] at hv
      exact ⟨hv.1.1.1.1, hv.1.1.1.2, hv.1.1.2, hv.1.2⟩
    obtain ⟨k0, k1, l0, l1⟩ := hr
    have hU := Lib.hid (U_ofInt (1 + 4 * k + 16 * len + 65536 * m) (by omega) (by omega))
    go_enter Try.func10, Try.ntmps10
    go_wp2_with (go_at_call 13; refine (rvalid_any _ _ _ _ hm0 hm1).mono ?_; rintro e w1 ⟨rfl, hb⟩; obtain ⟨hc, hf⟩ := bcell hb)
    go_ret2
    exact ⟨(retW_eq (x := BitVec.ofInt 64 (1 + 4 * k + 16 * len + 65536 * m)) (by rw [hU.out]; omega)).trans (by unfold encH; rw [if_pos hv]), ((Below.refl _ _).alloc (Nat.le_refl _) _).trans (hb.mono (by simp))⟩
  · simp only [Bool.not_eq_true] at hv
    go_enter Try.func10, Try.ntmps10
    go_wp2_with (go_at_call 13; refine (rvalid_any _ _ _ _ hm0 hm1).mono ?_; rintro e w1 ⟨rfl, hb⟩)
    go_ret2
    exact ⟨by unfold retW encH; rw [hv]; rfl, ((Below.refl _ _).alloc (Nat.le_refl _) _).trans (hb.mono (by simp))⟩
end Go.Proofs.Ytcnlfokgofmnkaa

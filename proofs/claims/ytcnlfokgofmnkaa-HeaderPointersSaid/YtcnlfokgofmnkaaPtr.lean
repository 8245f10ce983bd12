/- The contracts of header's Size, Pointer, Pointers, of their references, and of SameInts. -/
import Derived.Test.YtcnlfokgofmnkaaHead
import Derived.Test.YtcnlfokgofmnkaaUnpack
import Derived.Deep.RegionHeld3
namespace Go.Proofs.Ytcnlfokgofmnkaa
open Go.RowKit Words

def sizeH (k len m : Int) : Int := if validH k len m = true then len + 1 else 0
def bitH (m i : Int) : Bool := bits .and .u32 (m / 2 ^ i.toNat) 1 == 1
def ptrH (k len m i : Int) : Bool := validH k len m && decide (0 ≤ i) && decide (i < len) && (decide (k = 2) || (decide (k = 1) && bitH m i))
def plH (k len m : Int) (j : Nat) : List Int := ((List.range j).map fun (x : Nat) => (x : Int)).filter (ptrH k len m)
theorem plH_succ (k len m : Int) (j : Nat) : plH k len m (j + 1) = plH k len m j ++ (if ptrH k len m j = true then [(j : Int)] else []) := by
  unfold plH
  rw [List.range_succ, List.map_append, List.filter_append]
  simp only [List.map_cons, List.map_nil, List.filter_cons, List.filter_nil]
theorem plH_bad (k len m : Int) (h : validH k len m = false) (j : Nat) : plH k len m j = [] := by
  unfold plH
  rw [List.filter_eq_nil_iff]
  intro a _
  simp [ptrH, h]
theorem plH_end (k len m : Int) (h0 : 0 ≤ len) : plH k len m (len.toNat + 1) = plH k len m len.toNat := by
  rw [plH_succ]
  have : ptrH k len m (len.toNat : Int) = false := by
    have h1 : ¬ ((len.toNat : Int) < len) := by omega
    unfold ptrH
    rw [decide_eq_false h1]
    simp
  rw [this]
  simp
theorem plH_le (k len m : Int) (j : Nat) : (plH k len m j).length ≤ j := by
  unfold plH
  refine Nat.le_trans (List.length_filter_le _ _) ?_
  simp
theorem valid_len {k len m : Int} (h : validH k len m = true) : 0 ≤ len ∧ len ≤ 255 ∧ (k = 1 → len ≤ 32) := by
  simp only [validH, Bool.and_eq_true, decide_eq_true_eq] at h
  refine ⟨h.1.1.2, h.1.2, fun hk => ?_⟩
  rw [if_pos hk] at h
  simp only [Bool.and_eq_true, decide_eq_true_eq] at h
  exact h.2.1

theorem size_any (k len m : Int) (w : World) (hm0 : 0 ≤ m) (hm1 : m ≤ 4294967295) :
    Calls Try.prog 15 #[headV k len m] w fun e w' => e = .returned (.int .i64 (sizeH k len m)) ∧ Below w.heap.size w w' := by
  have B0 := Blk.new w #[.int .i64 k, .int .i64 len, .int .u32 m] 24
  by_cases hv : validH k len m = true
  · obtain ⟨l0, l1, _⟩ := valid_len hv
    have HV := Lib.hid hv
    go_enter Try.func15, Try.ntmps15
    go_wp2_with fail
    refine (valid_any _ _ _ _ hm0 hm1).mono ?_
    rintro e w1 ⟨rfl, hb⟩
    have c1 : w1.cell? ⟨w.heap.size, 1, none⟩ = some (.int .i64 len) := (B0.below hb).cell 1 _ rfl
    clear hm0 hm1
    go_wp2_with fail
    go_ret
    exact ⟨by unfold sizeH; rw [if_pos HV.out]; rfl, by repeat (first | exact Below.refl _ _ | assumption | refine keep_alloc ?_ _ | refine keep_below (by assumption) ?_)⟩
  · simp only [Bool.not_eq_true] at hv
    have HV := Lib.hid hv
    go_enter Try.func15, Try.ntmps15
    go_wp2_with fail
    refine (valid_any _ _ _ _ hm0 hm1).mono ?_
    rintro e w1 ⟨rfl, hb⟩
    clear hm0 hm1
    go_wp2_with fail
    go_ret
    exact ⟨by unfold sizeH; rw [HV.out]; rfl, by repeat (first | exact Below.refl _ _ | assumption | refine keep_alloc ?_ _ | refine keep_below (by assumption) ?_)⟩
theorem rsize_any (k len m : Int) (w : World) (hm0 : 0 ≤ m) (hm1 : m ≤ 4294967295) :
    Calls Try.prog 16 #[headV k len m] w fun e w' => e = .returned (.int .i64 (sizeH k len m)) ∧ Below w.heap.size w w' := by
  have B0 := Blk.new w #[.int .i64 k, .int .i64 len, .int .u32 m] 24
  by_cases hv : validH k len m = true
  · obtain ⟨l0, l1, _⟩ := valid_len hv
    have HV := Lib.hid hv
    go_enter Try.func16, Try.ntmps16
    go_wp2_with fail
    refine (rvalid_any _ _ _ _ hm0 hm1).mono ?_
    rintro e w1 ⟨rfl, hb⟩
    have c1 : w1.cell? ⟨w.heap.size, 1, none⟩ = some (.int .i64 len) := (B0.below hb).cell 1 _ rfl
    clear hm0 hm1
    go_wp2_with fail
    go_ret
    exact ⟨by unfold sizeH; rw [if_pos HV.out]; rfl, by repeat (first | exact Below.refl _ _ | assumption | refine keep_alloc ?_ _ | refine keep_below (by assumption) ?_)⟩
  · simp only [Bool.not_eq_true] at hv
    have HV := Lib.hid hv
    go_enter Try.func16, Try.ntmps16
    go_wp2_with fail
    refine (rvalid_any _ _ _ _ hm0 hm1).mono ?_
    rintro e w1 ⟨rfl, hb⟩
    clear hm0 hm1
    go_wp2_with fail
    go_ret
    exact ⟨by unfold sizeH; rw [HV.out]; rfl, by repeat (first | exact Below.refl _ _ | assumption | refine keep_alloc ?_ _ | refine keep_below (by assumption) ?_)⟩

theorem pointer_any (k len m i : Int) (w : World) (hm0 : 0 ≤ m) (hm1 : m ≤ 4294967295) (hi0 : -9223372036854775808 ≤ i) (hi1 : i ≤ 9223372036854775807) :
    Calls Try.prog 17 #[headV k len m, .int .i64 i] w fun e w' => e = .returned (.bool (ptrH k len m i)) ∧ Below w.heap.size w w' := by
  have B0 := Blk.new w #[.int .i64 k, .int .i64 len, .int .u32 m] 24
  have M0 := Lib.hid hm0
  have M1 := Lib.hid hm1
  clear hm0 hm1
  by_cases hv : validH k len m = true
  · obtain ⟨l0, l1, l2⟩ := valid_len hv
    by_cases t0 : i < 0
    · have hp : ptrH k len m i = false := by
        have h : decide (0 ≤ i) = false := by simp; omega
        simp [ptrH, h]
      have HP := Lib.hid hp
      clear hp
      go_enter Try.func17, Try.ntmps17
      go_wp2_with fail
      refine (valid_any _ _ _ _ M0.out M1.out).mono ?_
      rintro e w1 ⟨rfl, hb⟩
      have B1 := B0.below hb
      have c0 : w1.cell? ⟨w.heap.size, 0, none⟩ = some (.int .i64 k) := B1.cell 0 _ rfl
      have c1 : w1.cell? ⟨w.heap.size, 1, none⟩ = some (.int .i64 len) := B1.cell 1 _ rfl
      have c2 : w1.cell? ⟨w.heap.size, 2, none⟩ = some (.int .u32 m) := B1.cell 2 _ rfl
      go_wp2
      go_ret
      exact ⟨ret_b HP.out.symm, by repeat (first | exact Below.refl _ _ | assumption | refine keep_alloc ?_ _ | refine keep_below (by assumption) ?_)⟩
    by_cases t1 : len ≤ i
    · have hp : ptrH k len m i = false := by
        have h : decide (i < len) = false := by simp; omega
        simp [ptrH, h]
      have HP := Lib.hid hp
      clear hp
      go_enter Try.func17, Try.ntmps17
      go_wp2_with fail
      refine (valid_any _ _ _ _ M0.out M1.out).mono ?_
      rintro e w1 ⟨rfl, hb⟩
      have B1 := B0.below hb
      have c0 : w1.cell? ⟨w.heap.size, 0, none⟩ = some (.int .i64 k) := B1.cell 0 _ rfl
      have c1 : w1.cell? ⟨w.heap.size, 1, none⟩ = some (.int .i64 len) := B1.cell 1 _ rfl
      have c2 : w1.cell? ⟨w.heap.size, 2, none⟩ = some (.int .u32 m) := B1.cell 2 _ rfl
      go_wp2
      go_ret
      exact ⟨ret_b HP.out.symm, by repeat (first | exact Below.refl _ _ | assumption | refine keep_alloc ?_ _ | refine keep_below (by assumption) ?_)⟩
    have e0 : decide (0 ≤ i) = true := by simp; omega
    have e1 : decide (i < len) = true := by simp; omega
    by_cases t2 : k = 2
    · have t2' : (k == 2) = true := by simpa using t2
      have hp : ptrH k len m i = true := by
        unfold ptrH
        rw [hv, e0, e1, decide_eq_true t2]
        rfl
      clear t2 l2 e0 e1
      have HP := Lib.hid hp
      clear hp
      go_enter Try.func17, Try.ntmps17
      go_wp2_with fail
      refine (valid_any _ _ _ _ M0.out M1.out).mono ?_
      rintro e w1 ⟨rfl, hb⟩
      have B1 := B0.below hb
      have c0 : w1.cell? ⟨w.heap.size, 0, none⟩ = some (.int .i64 k) := B1.cell 0 _ rfl
      have c1 : w1.cell? ⟨w.heap.size, 1, none⟩ = some (.int .i64 len) := B1.cell 1 _ rfl
      have c2 : w1.cell? ⟨w.heap.size, 2, none⟩ = some (.int .u32 m) := B1.cell 2 _ rfl
      go_wp2
      go_ret
      exact ⟨ret_b HP.out.symm, by repeat (first | exact Below.refl _ _ | assumption | refine keep_alloc ?_ _ | refine keep_below (by assumption) ?_)⟩
    have t2' : (k == 2) = false := by simpa using t2
    by_cases t3 : k = 1
    · have t4 := l2 t3
      have t3' : (k == 1) = true := by simpa using t3
      have hp : ptrH k len m i = (bits .and .u32 (m / 2 ^ i.toNat) 1 == 1) := by
        unfold ptrH
        rw [hv, e0, e1, decide_eq_false t2, decide_eq_true t3]
        rfl
      clear t2 t3 l2 e0 e1
      have HP := Lib.hid hp
      clear hp
      go_enter Try.func17, Try.ntmps17
      go_wp2_with fail
      refine (valid_any _ _ _ _ M0.out M1.out).mono ?_
      rintro e w1 ⟨rfl, hb⟩
      have B1 := B0.below hb
      have c0 : w1.cell? ⟨w.heap.size, 0, none⟩ = some (.int .i64 k) := B1.cell 0 _ rfl
      have c1 : w1.cell? ⟨w.heap.size, 1, none⟩ = some (.int .i64 len) := B1.cell 1 _ rfl
      have c2 : w1.cell? ⟨w.heap.size, 2, none⟩ = some (.int .u32 m) := B1.cell 2 _ rfl
      go_wp2
      go_ret
      exact ⟨ret_b HP.out.symm, by repeat (first | exact Below.refl _ _ | assumption | refine keep_alloc ?_ _ | refine keep_below (by assumption) ?_)⟩
    · have t3' : (k == 1) = false := by simpa using t3
      have hp : ptrH k len m i = false := by
        unfold ptrH
        rw [hv, e0, e1, decide_eq_false t2, decide_eq_false t3]
        rfl
      clear t2 t3 l2 e0 e1
      have HP := Lib.hid hp
      clear hp
      go_enter Try.func17, Try.ntmps17
      go_wp2_with fail
      refine (valid_any _ _ _ _ M0.out M1.out).mono ?_
      rintro e w1 ⟨rfl, hb⟩
      have B1 := B0.below hb
      have c0 : w1.cell? ⟨w.heap.size, 0, none⟩ = some (.int .i64 k) := B1.cell 0 _ rfl
      have c1 : w1.cell? ⟨w.heap.size, 1, none⟩ = some (.int .i64 len) := B1.cell 1 _ rfl
      have c2 : w1.cell? ⟨w.heap.size, 2, none⟩ = some (.int .u32 m) := B1.cell 2 _ rfl
      go_wp2
      go_ret
      exact ⟨ret_b HP.out.symm, by repeat (first | exact Below.refl _ _ | assumption | refine keep_alloc ?_ _ | refine keep_below (by assumption) ?_)⟩
  · simp only [Bool.not_eq_true] at hv
    have hp : ptrH k len m i = false := by
      unfold ptrH
      rw [hv]
      rfl
    have HP := Lib.hid hp
    clear hp
    go_enter Try.func17, Try.ntmps17
    go_wp2_with fail
    refine (valid_any _ _ _ _ M0.out M1.out).mono ?_
    rintro e w1 ⟨rfl, hb⟩
    have B1 := B0.below hb
    have c0 : w1.cell? ⟨w.heap.size, 0, none⟩ = some (.int .i64 k) := B1.cell 0 _ rfl
    have c1 : w1.cell? ⟨w.heap.size, 1, none⟩ = some (.int .i64 len) := B1.cell 1 _ rfl
    have c2 : w1.cell? ⟨w.heap.size, 2, none⟩ = some (.int .u32 m) := B1.cell 2 _ rfl
    go_wp2
    go_ret
    exact ⟨ret_b HP.out.symm, by repeat (first | exact Below.refl _ _ | assumption | refine keep_alloc ?_ _ | refine keep_below (by assumption) ?_)⟩
theorem rpointer_any (k len m i : Int) (w : World) (hm0 : 0 ≤ m) (hm1 : m ≤ 4294967295) (hi0 : -9223372036854775808 ≤ i) (hi1 : i ≤ 9223372036854775807) :
    Calls Try.prog 18 #[headV k len m, .int .i64 i] w fun e w' => e = .returned (.bool (ptrH k len m i)) ∧ Below w.heap.size w w' := by
  have B0 := Blk.new w #[.int .i64 k, .int .i64 len, .int .u32 m] 24
  have M0 := Lib.hid hm0
  have M1 := Lib.hid hm1
  clear hm0 hm1
  by_cases hv : validH k len m = true
  · obtain ⟨l0, l1, l2⟩ := valid_len hv
    by_cases t0 : i < 0
    · have hp : ptrH k len m i = false := by
        have h : decide (0 ≤ i) = false := by simp; omega
        simp [ptrH, h]
      have HP := Lib.hid hp
      clear hp
      go_enter Try.func18, Try.ntmps18
      go_wp2_with fail
      refine (rvalid_any _ _ _ _ M0.out M1.out).mono ?_
      rintro e w1 ⟨rfl, hb⟩
      have B1 := B0.below hb
      have c0 : w1.cell? ⟨w.heap.size, 0, none⟩ = some (.int .i64 k) := B1.cell 0 _ rfl
      have c1 : w1.cell? ⟨w.heap.size, 1, none⟩ = some (.int .i64 len) := B1.cell 1 _ rfl
      have c2 : w1.cell? ⟨w.heap.size, 2, none⟩ = some (.int .u32 m) := B1.cell 2 _ rfl
      go_wp2
      go_ret
      exact ⟨ret_b HP.out.symm, by repeat (first | exact Below.refl _ _ | assumption | refine keep_alloc ?_ _ | refine keep_below (by assumption) ?_)⟩
    by_cases t1 : len ≤ i
    · have hp : ptrH k len m i = false := by
        have h : decide (i < len) = false := by simp; omega
        simp [ptrH, h]
      have HP := Lib.hid hp
      clear hp
      go_enter Try.func18, Try.ntmps18
      go_wp2_with fail
      refine (rvalid_any _ _ _ _ M0.out M1.out).mono ?_
      rintro e w1 ⟨rfl, hb⟩
      have B1 := B0.below hb
      have c0 : w1.cell? ⟨w.heap.size, 0, none⟩ = some (.int .i64 k) := B1.cell 0 _ rfl
      have c1 : w1.cell? ⟨w.heap.size, 1, none⟩ = some (.int .i64 len) := B1.cell 1 _ rfl
      have c2 : w1.cell? ⟨w.heap.size, 2, none⟩ = some (.int .u32 m) := B1.cell 2 _ rfl
      go_wp2
      go_ret
      exact ⟨ret_b HP.out.symm, by repeat (first | exact Below.refl _ _ | assumption | refine keep_alloc ?_ _ | refine keep_below (by assumption) ?_)⟩
    have e0 : decide (0 ≤ i) = true := by simp; omega
    have e1 : decide (i < len) = true := by simp; omega
    by_cases t2 : k = 2
    · have t2' : (k == 2) = true := by simpa using t2
      have hp : ptrH k len m i = true := by
        unfold ptrH
        rw [hv, e0, e1, decide_eq_true t2]
        rfl
      clear t2 l2 e0 e1
      have HP := Lib.hid hp
      clear hp
      go_enter Try.func18, Try.ntmps18
      go_wp2_with fail
      refine (rvalid_any _ _ _ _ M0.out M1.out).mono ?_
      rintro e w1 ⟨rfl, hb⟩
      have B1 := B0.below hb
      have c0 : w1.cell? ⟨w.heap.size, 0, none⟩ = some (.int .i64 k) := B1.cell 0 _ rfl
      have c1 : w1.cell? ⟨w.heap.size, 1, none⟩ = some (.int .i64 len) := B1.cell 1 _ rfl
      have c2 : w1.cell? ⟨w.heap.size, 2, none⟩ = some (.int .u32 m) := B1.cell 2 _ rfl
      go_wp2
      go_ret
      exact ⟨ret_b HP.out.symm, by repeat (first | exact Below.refl _ _ | assumption | refine keep_alloc ?_ _ | refine keep_below (by assumption) ?_)⟩
    have t2' : (k == 2) = false := by simpa using t2
    by_cases t3 : k = 1
    · have t4 := l2 t3
      have t3' : (k == 1) = true := by simpa using t3
      have hp : ptrH k len m i = (bits .and .u32 (m / 2 ^ i.toNat) 1 == 1) := by
        unfold ptrH
        rw [hv, e0, e1, decide_eq_false t2, decide_eq_true t3]
        rfl
      clear t2 t3 l2 e0 e1
      have HP := Lib.hid hp
      clear hp
      go_enter Try.func18, Try.ntmps18
      go_wp2_with fail
      refine (rvalid_any _ _ _ _ M0.out M1.out).mono ?_
      rintro e w1 ⟨rfl, hb⟩
      have B1 := B0.below hb
      have c0 : w1.cell? ⟨w.heap.size, 0, none⟩ = some (.int .i64 k) := B1.cell 0 _ rfl
      have c1 : w1.cell? ⟨w.heap.size, 1, none⟩ = some (.int .i64 len) := B1.cell 1 _ rfl
      have c2 : w1.cell? ⟨w.heap.size, 2, none⟩ = some (.int .u32 m) := B1.cell 2 _ rfl
      go_wp2
      go_ret
      exact ⟨ret_b HP.out.symm, by repeat (first | exact Below.refl _ _ | assumption | refine keep_alloc ?_ _ | refine keep_below (by assumption) ?_)⟩
    · have t3' : (k == 1) = false := by simpa using t3
      have hp : ptrH k len m i = false := by
        unfold ptrH
        rw [hv, e0, e1, decide_eq_false t2, decide_eq_false t3]
        rfl
      clear t2 t3 l2 e0 e1
      have HP := Lib.hid hp
      clear hp
      go_enter Try.func18, Try.ntmps18
      go_wp2_with fail
      refine (rvalid_any _ _ _ _ M0.out M1.out).mono ?_
      rintro e w1 ⟨rfl, hb⟩
      have B1 := B0.below hb
      have c0 : w1.cell? ⟨w.heap.size, 0, none⟩ = some (.int .i64 k) := B1.cell 0 _ rfl
      have c1 : w1.cell? ⟨w.heap.size, 1, none⟩ = some (.int .i64 len) := B1.cell 1 _ rfl
      have c2 : w1.cell? ⟨w.heap.size, 2, none⟩ = some (.int .u32 m) := B1.cell 2 _ rfl
      go_wp2
      go_ret
      exact ⟨ret_b HP.out.symm, by repeat (first | exact Below.refl _ _ | assumption | refine keep_alloc ?_ _ | refine keep_below (by assumption) ?_)⟩
  · simp only [Bool.not_eq_true] at hv
    have hp : ptrH k len m i = false := by
      unfold ptrH
      rw [hv]
      rfl
    have HP := Lib.hid hp
    clear hp
    go_enter Try.func18, Try.ntmps18
    go_wp2_with fail
    refine (rvalid_any _ _ _ _ M0.out M1.out).mono ?_
    rintro e w1 ⟨rfl, hb⟩
    have B1 := B0.below hb
    have c0 : w1.cell? ⟨w.heap.size, 0, none⟩ = some (.int .i64 k) := B1.cell 0 _ rfl
    have c1 : w1.cell? ⟨w.heap.size, 1, none⟩ = some (.int .i64 len) := B1.cell 1 _ rfl
    have c2 : w1.cell? ⟨w.heap.size, 2, none⟩ = some (.int .u32 m) := B1.cell 2 _ rfl
    go_wp2
    go_ret
    exact ⟨ret_b HP.out.symm, by repeat (first | exact Below.refl _ _ | assumption | refine keep_alloc ?_ _ | refine keep_below (by assumption) ?_)⟩
end Go.Proofs.Ytcnlfokgofmnkaa

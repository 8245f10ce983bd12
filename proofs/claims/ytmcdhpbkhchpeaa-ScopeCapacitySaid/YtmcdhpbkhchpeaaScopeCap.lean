/- The plain law of ScopeCapacity. -/
import Derived.Test.YtmcdhpbkhchpeaaScope12
namespace Go.Proofs.Ytmcdhpbkhchpeaa
open Go.ChangeShapes Go.WideShapes Go.RowKit Words

/-- one scope with capacity n and k handles in it -/
def capL (n k : Nat) : Lc := ⟨(List.range k).map fun (j : Nat) => ⟨(j : Int) + 1, BitVec.ofNat 64 (j + 1), true⟩, [⟨0, n, true⟩], (List.range k).map fun (j : Nat) => (j : Int)⟩
def capAll : Bool := (List.range 65).all fun n => (List.range n).all fun k => newL (capL n k) (BitVec.ofNat 64 (k + 1)) == (capL n (k + 1), (k : Int), (k : Int) + 1, 0)
set_option maxRecDepth 100000 in
theorem cap_all : capAll = true := by decide +kernel
def capD (n : Nat) : Lc := ⟨(capL n n).s.set (n / 2) ⟨(n / 2 : Nat) + 1, 0#64, false⟩, (capL n n).p, (capL n n).i⟩
def capEnd : Bool := (List.range 65).all fun n => (newL (capL n n) 9#64 == (Lc.nil, 0, 0, 10)) && (n == 0 || ((delL (capL n n) (n / 2 : Nat) ((n / 2 : Nat) + 1) == (capD n, 0)) && ((newL (capD n) 9#64).2 == ((n : Int), (n : Int) + 1, 0)))) && (openL Lc.nil n true == (capL n 0, 0))
set_option maxRecDepth 100000 in
theorem cap_end : capEnd = true := by decide +kernel
theorem cap_new {n k : Nat} (hn : n < 65) (hk : k < n) : newL (capL n k) (BitVec.ofNat 64 (k + 1)) = (capL n (k + 1), (k : Int), (k : Int) + 1, 0) := by
  have h := cap_all
  unfold capAll at h
  rw [List.all_eq_true] at h
  have h1 := h n (List.mem_range.2 hn)
  rw [List.all_eq_true] at h1
  exact beq_iff_eq.1 (h1 k (List.mem_range.2 hk))
theorem cap_at {n : Nat} (hn : n < 65) : newL (capL n n) 9#64 = (Lc.nil, 0, 0, 10) ∧ (n = 0 ∨ (delL (capL n n) (n / 2 : Nat) ((n / 2 : Nat) + 1) = (capD n, 0) ∧ (newL (capD n) 9#64).2 = ((n : Int), (n : Int) + 1, 0))) ∧ openL Lc.nil n true = (capL n 0, 0) := by
  have h := cap_end
  unfold capEnd at h
  rw [List.all_eq_true] at h
  have h1 := h n (List.mem_range.2 hn)
  simp only [Bool.and_eq_true, Bool.or_eq_true, beq_iff_eq] at h1
  exact ⟨h1.1.1, h1.1.2, h1.2⟩
theorem cap_len (n k : Nat) : (capL n k).s.length = k ∧ (capL n k).p.length = 1 ∧ (capL n k).i.length = k := by simp [capL]
theorem capD_len (n : Nat) : (capD n).s.length = n ∧ (capD n).p.length = 1 ∧ (capD n).i.length = n := by simp [capD, capL]
end Go.Proofs.Ytmcdhpbkhchpeaa

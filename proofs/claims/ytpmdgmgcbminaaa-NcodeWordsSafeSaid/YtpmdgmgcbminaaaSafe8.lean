/- Where a program goes on: next and ways. Printed by mk_safe8.py. -/
import Derived.Test.YtpmdgmgcbminaaaSafe7
namespace Go.Proofs.Ytpmdgmgcbminaaa
open Go.ChangeShapes Go.WideShapes Go.RowKit Words

/-- numbers of the call's own come back -/
def RetI (w : World) (l : List Int) (e : Ending) (w' : World) : Prop :=
  ∃ A c, e = .returned (.slice A l.length c) ∧ Reads w' w'.heap.size 1 A l.length c (l.flatMap intCells) ∧ Below w.heap.size w w'
/-- the indexes at which a program may go on -/
def waysL (op : Int) (k : BitVec 64) (at_ : Nat) : List Int := if op = 17 then [] else if op = 9 then [U k] else if op = 10 then [(at_ : Int) + 1, U k] else [(at_ : Int) + 1]
set_option linter.unusedSimpArgs false in
set_option maxHeartbeats 4000000 in
theorem nextp_any (op a b c : Int) (k : BitVec 64) (at_ : Nat) (hat : at_ ≤ 1000) (hk : op = 9 ∨ op = 10 → U k ≤ 1000) (w : World) :
    Calls Try.prog 36 #[.agg #[.int .i64 op, .int .i64 a, .int .i64 b, .int .i64 c, .int .u64 (U k)], .int .i64 at_] w (RetI w (waysL op k at_)) := by
  have hu0 := U_nonneg k
  have hB : Below w.heap.size w (w.alloc (.cells #[.int .i64 op, .int .i64 a, .int .i64 b, .int .i64 c, .int .u64 (U k)] 60)) := keep_alloc (Below.refl _ _) _
  have h1 : IntKind.i64.wrap ((at_ : Int) + 1) = (at_ : Int) + 1 := IntWalk.i64_in _ (by omega)
  by_cases h17 : op = 17
  · subst h17
    go_enter Try.func36, Try.ntmps36
    go_wp2_with fail
    go_ret
    exact ⟨none, 0, rfl, Reads.nil, hB⟩
  by_cases h9 : op = 9
  · subst h9
    have hk1 := hk (Or.inl rfl)
    have h2 : IntKind.i64.wrap (U k) = U k := IntWalk.i64_in _ (by omega)
    go_enter Try.func36, Try.ntmps36
    go_wp2_with fail
    go_ret
    exact ⟨_, _, rfl, Reads.freshAt _ #[.int .i64 (U k)] _ 1 1 _ (w.heap.size + 1) (by simp) rfl rfl (by decide), keep_alloc hB _⟩
  by_cases h10 : op = 10
  · subst h10
    have hk1 := hk (Or.inr rfl)
    have h2 : IntKind.i64.wrap (U k) = U k := IntWalk.i64_in _ (by omega)
    go_enter Try.func36, Try.ntmps36
    go_wp2_with fail
    go_ret
    exact ⟨_, _, rfl, Reads.freshAt _ #[.int .i64 ((at_ : Int) + 1), .int .i64 (U k)] _ 1 2 _ (w.heap.size + 1) (by simp) rfl rfl (by decide), keep_alloc hB _⟩
  have HV := Lib.hid (show waysL op k at_ = [(at_ : Int) + 1] from by unfold waysL; rw [if_neg h17, if_neg h9, if_neg h10])
  have t17 : (op == 17) = false := beq_false_of_ne h17
  have t9 : (op == 9) = false := beq_false_of_ne h9
  have t10 : (op == 10) = false := beq_false_of_ne h10
  clear h17 h9 h10
  go_enter Try.func36, Try.ntmps36
  go_wp2_with fail
  go_ret
  rw [HV.out]
  exact ⟨_, _, rfl, Reads.freshAt _ #[.int .i64 ((at_ : Int) + 1)] _ 1 1 _ (w.heap.size + 1) (by simp) rfl rfl (by decide), keep_alloc hB _⟩
set_option linter.unusedSimpArgs false in
set_option maxHeartbeats 4000000 in
theorem ways_any (op a b c : Int) (k : BitVec 64) (at_ : Nat) (hat : at_ ≤ 1000) (hk : op = 9 ∨ op = 10 → U k ≤ 1000) (w : World) :
    Calls Try.prog 40 #[.agg #[.int .i64 op, .int .i64 a, .int .i64 b, .int .i64 c, .int .u64 (U k)], .int .i64 at_] w (RetI w (waysL op k at_)) := by
  have hu0 := U_nonneg k
  have hB : Below w.heap.size w (w.alloc (.cells #[.int .i64 op, .int .i64 a, .int .i64 b, .int .i64 c, .int .u64 (U k)] 58)) := keep_alloc (Below.refl _ _) _
  have h1 : IntKind.i64.wrap ((at_ : Int) + 1) = (at_ : Int) + 1 := IntWalk.i64_in _ (by omega)
  by_cases h17 : op = 17
  · subst h17
    go_enter Try.func40, Try.ntmps40
    go_wp2_with fail
    go_ret
    exact ⟨none, 0, rfl, Reads.nil, hB⟩
  by_cases h9 : op = 9
  · subst h9
    have hk1 := hk (Or.inl rfl)
    have h2 : IntKind.i64.wrap (U k) = U k := IntWalk.i64_in _ (by omega)
    go_enter Try.func40, Try.ntmps40
    go_wp2_with fail
    go_ret
    exact ⟨_, _, rfl, Reads.freshAt _ #[.int .i64 (U k)] _ 1 1 _ (w.heap.size + 1) (by simp) rfl rfl (by decide), keep_alloc hB _⟩
  by_cases h10 : op = 10
  · subst h10
    have hk1 := hk (Or.inr rfl)
    have h2 : IntKind.i64.wrap (U k) = U k := IntWalk.i64_in _ (by omega)
    go_enter Try.func40, Try.ntmps40
    go_wp2_with fail
    go_ret
    exact ⟨_, _, rfl, Reads.freshAt _ #[.int .i64 ((at_ : Int) + 1), .int .i64 (U k)] _ 1 2 _ (w.heap.size + 1) (by simp) rfl rfl (by decide), keep_alloc hB _⟩
  have HV := Lib.hid (show waysL op k at_ = [(at_ : Int) + 1] from by unfold waysL; rw [if_neg h17, if_neg h9, if_neg h10])
  have t17 : (op == 17) = false := beq_false_of_ne h17
  have t9 : (op == 9) = false := beq_false_of_ne h9
  have t10 : (op == 10) = false := beq_false_of_ne h10
  clear h17 h9 h10
  go_enter Try.func40, Try.ntmps40
  go_wp2_with fail
  go_ret
  rw [HV.out]
  exact ⟨_, _, rfl, Reads.freshAt _ #[.int .i64 ((at_ : Int) + 1)] _ 1 1 _ (w.heap.size + 1) (by simp) rfl rfl (by decide), keep_alloc hB _⟩
end Go.Proofs.Ytpmdgmgcbminaaa

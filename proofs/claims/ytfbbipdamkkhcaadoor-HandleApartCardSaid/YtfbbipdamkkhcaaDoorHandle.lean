/- The contracts of handle's Valid and Encode, and of their references. -/
import Derived.Test.YtfbbipdamkkhcaaDoorPack
import Derived.Test.YtfbbipdamkkhcaaDoorNum
import Derived.BigQuiet
import Derived.Deep.QuietTactic
namespace Go.Proofs.YtfbbipdamkkhcaaDoor
open Go.RowKit Words

theorem quiet_l {P : Program} {f : FuncId} {args : Array Value} {w : World} {n : Nat} {v : Value}
    (h : Calls P f args (w.drewN n) fun e w' => e = .returned v ∧ w.drewN n = w') : Calls P f args (w.drewN n) fun e w'' => e = .returned v ∧ ∃ m, w'' = w.drewN m :=
  h.mono fun _ _ ⟨he, hm⟩ => ⟨he, n, hm.symm⟩

/-- the package's widths, as the program's text lays them -/
structure Tab (w : World) : Prop where
  c0 : w.cell? ⟨0, 0, none⟩ = some (.int .i64 2)
  c1 : w.cell? ⟨0, 1, none⟩ = some (.int .i64 16)
  c2 : w.cell? ⟨0, 2, none⟩ = some (.int .i64 32)
theorem Tab.below {w w' : World} (h : Tab w) (hb : Below w.heap.size w w') : Tab w' := ⟨keep_cell hb h.c0, keep_cell hb h.c1, keep_cell hb h.c2⟩
theorem Tab.drew {w : World} (h : Tab w) : Tab w.drew := ⟨h.c0, h.c1, h.c2⟩
theorem Tab.alloc {w : World} (h : Tab w) (o : Obj) : Tab (w.alloc o) := h.below (keep_alloc (Below.refl _ _) _)
theorem Tab.size {w : World} (h : Tab w) : 0 < w.heap.size := World.block_lt_of_cell? w _ h.c0

/-- which handles are valid -/
def validD (t i s : Int) : Bool := decide (1 ≤ t) && decide (t ≤ 3) && decide (0 ≤ i) && decide (1 ≤ s) && decide (i ≤ 65535) && decide (s ≤ 4294967295)
abbrev handV (t i s : Int) : Value := .agg #[.int .i64 t, .int .i64 i, .int .i64 s]

def onesV (n : Int) : Int := U (ones n.toNat)
theorem onesV_any (n : Int) (w : World) : Calls Tryd.prog 15 #[.int .i64 n] w fun e w' => e = .returned (.int .u64 (onesV n)) ∧ w = w' := ones_any n w
theorem ones16 : onesV 16 = 65535 := by decide
theorem ones32 : onesV 32 = 4294967295 := by decide

set_option maxRecDepth 100000 in
theorem valid_any (t i s : Int) (w : World) (hT : Tab w) (hi0 : -9223372036854775808 ≤ i) (hi1 : i ≤ 9223372036854775807) (hs0 : -9223372036854775808 ≤ s) (hs1 : s ≤ 9223372036854775807) :
    Calls Tryd.prog 10 #[handV t i s] w fun e w' => e = .returned (.bool (validD t i s)) ∧ Below w.heap.size w w' := by
  obtain ⟨d0, d1, d2⟩ := hT.alloc (.cells #[.int .i64 t, .int .i64 i, .int .i64 s] 23)
  by_cases t0 : t < 1
  · have HV := Lib.hid (show validD t i s = false by simp [validD]; omega)
    clear hi0 hi1 hs0 hs1
    go_enter Tryd.func10, Tryd.ntmps10
    go_wp2
    go_ret
    exact ⟨ret_b HV.out.symm, by go_grown⟩
  by_cases t1 : 3 < t
  · have HV := Lib.hid (show validD t i s = false by simp [validD]; omega)
    clear hi0 hi1 hs0 hs1
    go_enter Tryd.func10, Tryd.ntmps10
    go_wp2
    go_ret
    exact ⟨ret_b HV.out.symm, by go_grown⟩
  by_cases t2 : i < 0
  · have HV := Lib.hid (show validD t i s = false by simp [validD]; omega)
    clear hi0 hi1 hs0 hs1
    go_enter Tryd.func10, Tryd.ntmps10
    go_wp2
    go_ret
    exact ⟨ret_b HV.out.symm, by go_grown⟩
  by_cases t3 : s < 1
  · have HV := Lib.hid (show validD t i s = false by simp [validD]; omega)
    clear hi0 hi1 hs0 hs1
    go_enter Tryd.func10, Tryd.ntmps10
    go_wp2
    go_ret
    exact ⟨ret_b HV.out.symm, by go_grown⟩
  have v16 := ones16
  have v32 := ones32
  have x1 : IntKind.u64.wrap i = i := IntWalk.u64_in _ (by omega)
  have x2 : IntKind.u64.wrap s = s := IntWalk.u64_in _ (by omega)
  by_cases t4 : i ≤ 65535
  · have e1 : decide (i ≤ 65535) = true := decide_eq_true t4
    by_cases t5 : s ≤ 4294967295
    · have HV := Lib.hid (show validD t i s = true by simp [validD]; omega)
      have e2 : decide (s ≤ (4294967295 : Int)) = true := decide_eq_true t5
      clear hi0 hi1 hs0 hs1 t4 t5
      go_enter Tryd.func10, Tryd.ntmps10
      go_wp2_with fail
      go_quiet ((go_at_call 15; exact quiet_l (onesV_any _ _)))
      go_wp2
      go_ret
      exact ⟨ret_b HV.out.symm, below_drewN (by go_grown) _⟩
    · have HV := Lib.hid (show validD t i s = false by simp [validD]; omega)
      have e2 : decide (s ≤ (4294967295 : Int)) = false := decide_eq_false t5
      clear hi0 hi1 hs0 hs1 t4 t5
      go_enter Tryd.func10, Tryd.ntmps10
      go_wp2_with fail
      go_quiet ((go_at_call 15; exact quiet_l (onesV_any _ _)))
      go_wp2
      go_ret
      exact ⟨ret_b HV.out.symm, below_drewN (by go_grown) _⟩
  · have HV := Lib.hid (show validD t i s = false by simp [validD]; omega)
    have e1 : decide (i ≤ 65535) = false := decide_eq_false t4
    clear hi0 hi1 hs0 hs1 t4
    go_enter Tryd.func10, Tryd.ntmps10
    go_wp2_with fail
    go_quiet ((go_at_call 15; exact quiet_l (onesV_any _ _)))
    go_wp2
    go_ret
    exact ⟨ret_b HV.out.symm, below_drewN (by go_grown) _⟩
end Go.Proofs.YtfbbipdamkkhcaaDoor

/- The walk of SlotsValid. -/
import Derived.Test.YtfcghhpbjnlldaaSlotsAwake
import Derived.Test.YtfcghhpbjnlldaaWSame
import Derived.Deep.RegionLaw
namespace Go.Proofs.Ytfcghhpbjnlldaa
open Go.ChangeShapes Go.WideShapes Go.RowKit Words

theorem beq_bool_self (b : Bool) : (b == b) = true := by cases b <;> rfl
set_option maxHeartbeats 2000000 in
theorem walkSlotsValid {H : Type} {enc : TypeId × Value → H} (W : World) (base : Nat) {v0 : Value} {d0 : DataW H} {p0 : List MemPlace}
    (o0 : Value.okWide Try.prog W .any base 24 v0) (h0 : DataW.Trod enc Try.prog W 0 (fun _ => true) true 24 v0 d0 p0) :
    Calls Try.prog 4 #[v0] W fun e w' => e = .returned (.bool true) ∧ Below W.heap.size W w' := by
  obtain ⟨A, n, c, l, rfl, h, -⟩ := open_tab o0 h0
  clear h0 o0
  have c0 : (W.alloc (.cells #[.slice A n c] 24)).cell? ⟨W.heap.size, 0, none⟩ = some (.slice A n c) := (Blk.new W #[.slice A n c] 24).cell 0 _ rfl
  have hW := tab_alloc W A n c
  by_cases hl : n ≤ 200
  · have hn : n ≤ 1000000 := by omega
    have HN := Lib.hid hn
    have HL := Lib.hid (decide_eq_true hl)
    clear hl hn
    have hvv := beq_bool_self (validT l)
    go_enter Try.func4, Try.ntmps4
    go_wp2_with (go_at_call 9; refine (light_any _ _ _ _).mono ?_; rintro e w0 ⟨rfl, hb0⟩; rw [HL.out]; have c1 := keep_cell hb0 c0)
    have hB0 : Below W.heap.size W w0 := hW.trans (hb0.mono (by simp))
    have r0 := h.belowU hB0
    go_region_law (first
      | (go_simp; go_at_call 8; refine (awake_any _).mono ?_; rintro e wA ⟨rfl, hbA⟩; have cA := keep_cell hbA (show w0.drew.cell? _ = _ from c1); have rA := (r0.drew).belowU hbA)
      | (go_simp; go_at_call 10; refine (valid_any _ _ _ _ _ rA).mono ?_; rintro e wB ⟨rfl, hbB⟩; have cB := keep_cell hbB cA; have rB := rA.belowU hbB)
      | (go_simp; go_at_call 11; refine (rvalid_any _ _ _ _ _ rB).mono ?_; rintro e wC ⟨rfl, hbC⟩; have cC := keep_cell hbC cB; have rC := rB.belowU hbC)
      | (go_simp; go_at_call 13; refine (refs_any _ _ _ _ _ rC HN.out).mono ?_; rintro e wD ⟨AD, kD, rfl, sD, hbD⟩; have cD := keep_cell hbD cC; have rD := rC.belowU hbD)
      | (go_simp; go_at_call 14; refine (rrefs_any _ _ _ _ _ rD HN.out).mono ?_; rintro e wE ⟨AE, kE, rfl, sE, hbE⟩; have sD' := sD.belowU hbE)
      | (go_simp; go_at_call 12; refine (samew_any _ _ _ _ _ _ _ _ _ sD' sE).mono ?_; rintro e wF ⟨rfl, mF, rfl⟩; rw [decide_eq_true rfl]))
    all_goals
      go_wp2
      go_ret
      exact ⟨rfl, below_drewN (keep_below hbE (keep_below hbD (keep_below hbC (keep_below hbB (keep_below hbA hB0.drew))))) _⟩
  · have HL := Lib.hid (decide_eq_false hl)
    clear hl
    go_enter Try.func4, Try.ntmps4
    go_wp2_with (go_at_call 9; refine (light_any _ _ _ _).mono ?_; rintro e w0 ⟨rfl, hb0⟩; rw [HL.out])
    go_ret
    exact ⟨rfl, hW.trans (hb0.mono (by simp))⟩
end Go.Proofs.Ytfcghhpbjnlldaa

/- The contracts of the reference of slots.Valid, of Clone, and of the comparison of tables. -/
import Derived.Test.YtfcghhpbjnlldaaSlots
namespace Go.Proofs.Ytfcghhpbjnlldaa
open Go.RowKit Words

theorem tab_alloc (w : World) (A : Option Addr) (n c : Nat) : Below w.heap.size w (w.alloc (.cells #[.slice A n c] 24)) := keep_alloc (Below.refl _ _) _

set_option maxRecDepth 100000 in
theorem rvalid_any (A : Option Addr) (n c : Nat) (l : List Ent) (w : World) (h : Reads w w.heap.size 3 A n c (l.flatMap entCells)) :
    Calls Try.prog 11 #[tabV A n c] w fun e w' => e = .returned (.bool (validT l)) ∧ Below w.heap.size w w' := by
  have hlen := h.length entCells_len (by omega)
  have hcap := h.cap
  have hle := h.le
  unfold maxLen at hcap
  have hv : validT l = (decide (n ≤ 64) && !l.any badE) := by unfold validT; rw [hlen]
  have HL := Lib.hid hlen
  have HV := Lib.hid hv
  clear hlen hv
  have hW := tab_alloc w A n c
  have c0 : (w.alloc (.cells #[.slice A n c] 24)).cell? ⟨w.heap.size, 0, none⟩ = some (.slice A n c) := (Blk.new w #[.slice A n c] 24).cell 0 _ rfl
  obtain ⟨w1, hw1⟩ : ∃ w1, w.alloc (.cells #[.slice A n c] 24) = w1 := ⟨_, rfl⟩
  have hs1 : w.heap.size < w1.heap.size := by rw [← hw1]; simp
  have ha := h.below (w' := w1) (by rw [← hw1]; exact hW)
  go_enter Try.func11, Try.ntmps11
  go_wp2_with fail
  rw [hw1] at c0 hW
  have HW1 := Lib.hid hw1
  clear hw1
  go_loopw [3] (fun x wq => ∃ k : Nat, k ≤ n ∧ x = .int .i64 k ∧ Below w1.heap.size w1 wq ∧ l.any badE = (l.drop k).any badE) (fun x _ => n - (intOf x).toNat)
  case atStart => exact ⟨0, Nat.zero_le _, rfl, Below.refl _ _, rfl⟩
  case round =>
    obtain ⟨k, hk, rfl, hb, hspec⟩ := hrel
    have q0 : wr.cell? ⟨w.heap.size, 0, none⟩ = some (.slice A n c) := keep_cell hb c0
    have hsz := hb.size
    by_cases hlt : k < n
    · obtain ⟨b, off, x, rfl, hbb, hx, hc⟩ := (ha.below (hb.mono (by omega))).elem entCells_len (by omega) hlt
      have d0 := hc 0 _ rfl
      have d1 := hc 1 _ rfl
      have d2 := hc 2 _ rfl
      rw [Nat.add_zero] at d0
      rw [drop_at hx, List.any_cons] at hspec
      have hk0 : (0 : Int) ≤ (k : Int) := by omega
      have hk1 : (k : Int) < (n : Int) := by omega
      have H := Lib.hid hspec
      clear hspec hx hc c0
      obtain ⟨g, r, lv⟩ := x
      by_cases t0 : g < 1
      · have HB := Lib.hid (show badE ⟨g, r, lv⟩ = true by simp [badE, t0])
        go_wp2_with fail
        go_ret
        exact ⟨ret_b (by rw [HV.out, H.out, HB.out, Bool.true_or]; simp), hW.trans ((keep_alloc hb _).mono (by omega))⟩
      by_cases t1 : 4294967295 < g
      · have HB := Lib.hid (show badE ⟨g, r, lv⟩ = true by simp [badE, t1])
        have e1 : decide ((4294967295 : Int) < g) = true := decide_eq_true t1
        clear t1
        go_wp2_with fail
        go_ret
        exact ⟨ret_b (by rw [HV.out, H.out, HB.out, Bool.true_or]; simp), hW.trans ((keep_alloc hb _).mono (by omega))⟩
      have e1 : decide ((4294967295 : Int) < g) = false := decide_eq_false t1
      cases lv
      · by_cases hr : r = 0#64
        · have hu : (U r != 0) = false := by rw [hr]; rfl
          have HB := Lib.hid (show badE ⟨g, r, false⟩ = false by simp [badE, t0, t1, hr])
          clear t1 hr
          go_wp2_with fail
          go_roundw
          case rel => exact ⟨k + 1, by omega, by go_num, keep_alloc hb _, by rw [H.out, HB.out, Bool.false_or]⟩
          case measure => simp [intOf]; omega
        · have hu : (U r != 0) = true := by rw [show (0 : Int) = U 0#64 from rfl, U_ne]; simp [hr]
          have HB := Lib.hid (show badE ⟨g, r, false⟩ = true by simp [badE, hr])
          clear t1 hr
          go_wp2_with fail
          go_ret
          exact ⟨ret_b (by rw [HV.out, H.out, HB.out, Bool.true_or]; simp), hW.trans ((keep_alloc hb _).mono (by omega))⟩
      · have HB := Lib.hid (show badE ⟨g, r, true⟩ = false by simp [badE, t0, t1])
        clear t1
        go_wp2_with fail
        go_roundw
        case rel => exact ⟨k + 1, by omega, by go_num, keep_alloc hb _, by rw [H.out, HB.out, Bool.false_or]⟩
        case measure => simp [intOf]; omega
    · rw [drop_end HL.out hlt, List.any_nil] at hspec
      have H := Lib.hid hspec
      clear hspec c0
      go_wp2_with fail
      go_ret
      exact ⟨ret_b (by rw [HV.out, H.out]; simp; omega), hW.trans (hb.mono (by omega))⟩
end Go.Proofs.Ytfcghhpbjnlldaa

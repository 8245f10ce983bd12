/- The contract of the reference's Same, for local handles that are equal. Printed by mk_scope16.py. -/
import Derived.Test.YtmcdhpbkhchpeaaScope15
namespace Go.Proofs.Ytmcdhpbkhchpeaa
open Go.ChangeShapes Go.WideShapes Go.RowKit Words

set_option linter.unusedSimpArgs false in
set_option maxRecDepth 100000 in
set_option maxHeartbeats 4000000 in
theorem rsame_eq (As : Option Addr) (ns cs : Nat) (Ap : Option Addr) (np cp : Nat) (Ai : Option Addr) (ni ci : Nat) (Bs : Option Addr) (ds : Nat) (Bp : Option Addr) (dp : Nat) (Bi : Option Addr) (di : Nat) (S : List Sl) (P : List Sc) (I : List Int) (w : World)
    (h : LRd w As ns cs Ap np cp Ai ni ci S P I) (h' : LRd w Bs ns ds Bp np dp Bi ni di S P I) :
    Calls Try.prog 22 #[locV As ns cs Ap np cp Ai ni ci, locV Bs ns ds Bp np dp Bi ni di] w fun e w' => e = .returned (.bool true) ∧ Below w.heap.size w w' := by
  obtain ⟨hS, hP, hI⟩ := h.lens
  have hcs := h.s.cap
  have hls := h.s.le
  have hcp := h.p.cap
  have hlp := h.p.le
  have hci := h.i.cap
  have hli := h.i.le
  unfold maxLen at hcs hcp hci
  have hW : Below w.heap.size w ((w.alloc (.cells #[.slice As ns cs, .slice Ap np cp, .slice Ai ni ci] 26)).alloc (.cells #[.slice Bs ns ds, .slice Bp np dp, .slice Bi ni di] 26)) := keep_alloc (loc_alloc w _ _ _ _) _
  have X := (Blk.new w #[.slice As ns cs, .slice Ap np cp, .slice Ai ni ci] 26).alloc (.cells #[.slice Bs ns ds, .slice Bp np dp, .slice Bi ni di] 26)
  have Y := Blk.newAt (w.alloc (.cells #[.slice As ns cs, .slice Ap np cp, .slice Ai ni ci] 26)) #[.slice Bs ns ds, .slice Bp np dp, .slice Bi ni di] 26 (w.heap.size + 1) (by simp)
  have x0 := X.cell 0 _ rfl
  have x1 := X.cell 1 _ rfl
  have x2 := X.cell 2 _ rfl
  have y0 := Y.cell 0 _ rfl
  have y1 := Y.cell 1 _ rfl
  have y2 := Y.cell 2 _ rfl
  have a := h.belowU hW
  have a' := h'.belowU hW
  clear h h' X Y hS hP hI
  go_enter Try.func22, Try.ntmps22
  go_wp2_with fail
  obtain ⟨w1, hw1⟩ : ∃ w1, (w.alloc (.cells #[.slice As ns cs, .slice Ap np cp, .slice Ai ni ci] 26)).alloc (.cells #[.slice Bs ns ds, .slice Bp np dp, .slice Bi ni di] 26) = w1 := ⟨_, rfl⟩
  rw [hw1] at x0 x1 x2 y0 y1 y2 hW a a' ⊢
  clear hw1
  go_loopw [5] (fun i wr => ∃ k m : Nat, k ≤ ns ∧ i = .int .i64 k ∧ wr = w1.drewN m) (fun i _ => ns - (intOf i).toNat)
  case atStart => exact ⟨0, 0, Nat.zero_le _, rfl, rfl⟩
  case round =>
    obtain ⟨k, m, hk, rfl, rfl⟩ := hrel
    by_cases hlt : k < ns
    · obtain ⟨b, off, x, rfl, hbb, hx, hc⟩ := a.s.elem slCells_len (by omega) hlt
      obtain ⟨b', off', x', rfl, hbb', hx', hc'⟩ := a'.s.elem slCells_len (by omega) hlt
      obtain rfl : x = x' := Option.some.inj (hx.symm.trans hx')
      have d0 := hc 0 _ rfl
      have e0 := hc' 0 _ rfl
      have d1 := hc 1 _ rfl
      have e1 := hc' 1 _ rfl
      have d2 := hc 2 _ rfl
      have e2 := hc' 2 _ rfl
      rw [Nat.add_zero] at d0 e0
      have hk0 : (0 : Int) ≤ (k : Int) := by omega
      have hk1 : (k : Int) < (ns : Int) := by omega
      clear hx hc hx' hc'
      obtain ⟨g, r, v⟩ := x
      dsimp only at d0 d1 d2 e0 e1 e2
      have b0 : (g == g) = true := by simp
      have b1 : (U r == U r) = true := by simp
      have b2 : (v == v) = true := by simp
      go_wp2_with fail
      go_quiet (fail)
      go_wp2
      go_roundw
      case rel => exact ⟨k + 1, _, by omega, by go_num, rfl⟩
      case measure => simp [intOf]; omega
    · obtain rfl : k = ns := by omega
      go_wp2_with fail
      go_loopw [6] (fun i wr => ∃ k m : Nat, k ≤ np ∧ i = .int .i64 k ∧ wr = w1.drewN m) (fun i _ => np - (intOf i).toNat)
      case atStart => exact ⟨0, _, Nat.zero_le _, rfl, rfl⟩
      case round =>
        obtain ⟨k, m, hk, rfl, rfl⟩ := hrel
        by_cases hlt : k < np
        · obtain ⟨b, off, x, rfl, hbb, hx, hc⟩ := a.p.elem scCells_len (by omega) hlt
          obtain ⟨b', off', x', rfl, hbb', hx', hc'⟩ := a'.p.elem scCells_len (by omega) hlt
          obtain rfl : x = x' := Option.some.inj (hx.symm.trans hx')
          have d0 := hc 0 _ rfl
          have e0 := hc' 0 _ rfl
          have d1 := hc 1 _ rfl
          have e1 := hc' 1 _ rfl
          have d2 := hc 2 _ rfl
          have e2 := hc' 2 _ rfl
          rw [Nat.add_zero] at d0 e0
          have hk0 : (0 : Int) ≤ (k : Int) := by omega
          have hk1 : (k : Int) < (np : Int) := by omega
          clear hx hc hx' hc'
          obtain ⟨g, r, v⟩ := x
          dsimp only at d0 d1 d2 e0 e1 e2
          have b0 : (g == g) = true := by simp
          have b1 : (r == r) = true := by simp
          have b2 : (v == v) = true := by simp
          go_wp2_with fail
          go_quiet (fail)
          go_wp2
          go_roundw
          case rel => exact ⟨k + 1, _, by omega, by go_num, rfl⟩
          case measure => simp [intOf]; omega
        · obtain rfl : k = np := by omega
          go_wp2_with fail
          go_loopw [7] (fun i wr => ∃ k m : Nat, k ≤ ni ∧ i = .int .i64 k ∧ wr = w1.drewN m) (fun i _ => ni - (intOf i).toNat)
          case atStart => exact ⟨0, _, Nat.zero_le _, rfl, rfl⟩
          case round =>
            obtain ⟨k, m, hk, rfl, rfl⟩ := hrel
            by_cases hlt : k < ni
            · obtain ⟨b, off, x, rfl, hbb, hx, hc⟩ := a.i.elem inCells_len (by omega) hlt
              obtain ⟨b', off', x', rfl, hbb', hx', hc'⟩ := a'.i.elem inCells_len (by omega) hlt
              obtain rfl : x = x' := Option.some.inj (hx.symm.trans hx')
              have d0 := hc 0 _ rfl
              have e0 := hc' 0 _ rfl
              rw [Nat.add_zero, Nat.mul_one] at d0 e0
              have hk0 : (0 : Int) ≤ (k : Int) := by omega
              have hk1 : (k : Int) < (ni : Int) := by omega
              clear hx hc hx' hc'
              have b0 : (x != x) = false := by simp
              go_wp2_with fail
              go_quiet (fail)
              go_wp2
              go_roundw
              case rel => exact ⟨k + 1, _, by omega, by go_num, rfl⟩
              case measure => simp [intOf]; omega
            · obtain rfl : k = ni := by omega
              go_wp2_with fail
              go_ret
              exact ⟨rfl, below_drewN hW _⟩
end Go.Proofs.Ytmcdhpbkhchpeaa

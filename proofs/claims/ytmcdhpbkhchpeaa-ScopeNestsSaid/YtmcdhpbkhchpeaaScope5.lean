/- The contracts of the reference's live and to. -/
import Derived.Test.YtmcdhpbkhchpeaaScope4
namespace Go.Proofs.Ytmcdhpbkhchpeaa
open Go.ChangeShapes Go.WideShapes Go.RowKit Words

theorem seg_step {S : List Sl} {b k : Nat} {x : Sl} (hk : S[k]? = some x) (hkb : k < b) : cntLive (seg S k b) = cntLive (seg S (k + 1) b) + (if x.live = true then 1 else 0) := by
  unfold seg cntLive
  rw [drop_at hk, show b - k = (b - (k + 1)) + 1 by omega, List.take_succ_cons, List.countP_cons]
theorem seg_end (S : List Sl) (k : Nat) : cntLive (seg S k k) = 0 := by unfold seg cntLive; simp
set_option maxHeartbeats 1000000 in
theorem rlive_any (As : Option Addr) (ns cs : Nat) (Ap : Option Addr) (np cp : Nat) (Ai : Option Addr) (ni ci : Nat) (S : List Sl) (P : List Sc) (I : List Int) (f t : Nat) (w : World) (h : LRd w As ns cs Ap np cp Ai ni ci S P I)
    (hft : f ≤ t) (htn : t ≤ ns) :
    Calls Try.prog 41 #[locV As ns cs Ap np cp Ai ni ci, .int .i64 f, .int .i64 t] w fun e w' => e = .returned (.int .i64 (cntLive (seg S f t))) ∧ Below w.heap.size w w' := by
  have hB := loc_alloc w 26 (.slice As ns cs) (.slice Ap np cp) (.slice Ai ni ci)
  have B0 := Blk.new w #[.slice As ns cs, .slice Ap np cp, .slice Ai ni ci] 26
  have hh := h.belowU hB
  have hcap := h.s.cap
  have hle := h.s.le
  unfold maxLen at hcap
  clear h
  go_enter Try.func41, Try.ntmps41
  go_wp2_with fail
  obtain ⟨w1, hw1⟩ : ∃ w1, w.alloc (.cells #[.slice As ns cs, .slice Ap np cp, .slice Ai ni ci] 26) = w1 := ⟨_, rfl⟩
  rw [hw1] at hB hh B0 ⊢
  have a0 := B0.cell 0 _ rfl
  clear hw1 B0
  go_loopw [7, 8] (fun x y wq => ∃ k c : Nat, f ≤ k ∧ k ≤ t ∧ y = .int .i64 k ∧ x = .int .i64 c ∧ c ≤ k ∧ c + cntLive (seg S k t) = cntLive (seg S f t) ∧ wq = w1) (fun _ y _ => t - (intOf y).toNat)
  case atStart => exact ⟨f, 0, Nat.le_refl _, hft, rfl, rfl, Nat.zero_le _, by omega, rfl⟩
  case round =>
    obtain ⟨k, c, hfk, hk, rfl, rfl, hck, hcnt, rfl⟩ := hrel
    by_cases hlt : k < t
    · obtain ⟨b, off, x, rfl, hbb, hx, hc⟩ := hh.s.elem slCells_len (by omega) (show k < ns by omega)
      have d2 := hc 2 _ rfl
      have hs := seg_step hx hlt
      have hk0 : (0 : Int) ≤ (k : Int) := by omega
      have hk1 : (k : Int) < (ns : Int) := by omega
      have hd : decide ((k : Int) < (t : Int)) = true := by simp; omega
      obtain ⟨st, rf, lv⟩ := x
      dsimp only at d2 hs
      clear hc hx
      cases lv with
      | true =>
        rw [if_pos rfl] at hs
        have HS := Lib.hid hs
        have HCN := Lib.hid hcnt
        have hwc : IntKind.i64.wrap ((c : Int) + 1) = (c : Int) + 1 := IntWalk.i64_in _ (by omega)
        clear hs hcnt
        go_wp2_with fail
        go_roundw
        case rel => exact ⟨k + 1, c + 1, by omega, by omega, by go_num, by go_num, by omega, (by have := HS.out; have := HCN.out; omega), trivial⟩
        case measure => simp [intOf]; omega
      | false =>
        rw [if_neg (by decide)] at hs
        have HS := Lib.hid hs
        have HCN := Lib.hid hcnt
        clear hs hcnt
        go_wp2_with fail
        go_roundw
        case rel => exact ⟨k + 1, c, by omega, by omega, by go_num, rfl, by omega, (by have := HS.out; have := HCN.out; omega), trivial⟩
        case measure => simp [intOf]; omega
    · obtain rfl : k = t := by omega
      rw [seg_end] at hcnt
      have HC := Lib.hid hcnt
      have hd : decide ((k : Int) < (k : Int)) = false := by simp
      clear hcnt
      go_wp2_with fail
      go_ret
      exact ⟨ret_si (by rw [← HC.out]; simp), hB⟩
theorem rlive_val (As : Option Addr) (ns cs : Nat) (Ap : Option Addr) (np cp : Nat) (Ai : Option Addr) (ni ci : Nat) (S : List Sl) (P : List Sc) (I : List Int) (f t c : Nat) (w : World) (h : LRd w As ns cs Ap np cp Ai ni ci S P I)
    (hft : f ≤ t) (htn : t ≤ ns) (hv : cntLive (seg S f t) = c) :
    Calls Try.prog 41 #[locV As ns cs Ap np cp Ai ni ci, .int .i64 f, .int .i64 t] w fun e w' => e = .returned (.int .i64 c) ∧ Below w.heap.size w w' := by
  rw [← hv]; exact rlive_any As ns cs Ap np cp Ai ni ci S P I f t w h hft htn

set_option maxHeartbeats 1000000 in
theorem rto_val (As : Option Addr) (ns cs : Nat) (Ap : Option Addr) (np cp : Nat) (Ai : Option Addr) (ni ci : Nat) (S : List Sl) (P : List Sc) (I : List Int) (i t : Nat) (q : Sc) (w : World) (h : LRd w As ns cs Ap np cp Ai ni ci S P I)
    (hi : P[i]? = some q) (hN : nestedB S P = true) (ht : toN S P i = t) :
    Calls Try.prog 42 #[locV As ns cs Ap np cp Ai ni ci, .int .i64 i] w fun e w' => e = .returned (.int .i64 t) ∧ Below w.heap.size w w' := by
  obtain ⟨hS, hP, hI⟩ := h.lens
  obtain ⟨n0, n1, -, -, n4, n5, n6⟩ := nested_at hN hi
  have hlp := h.p.le
  have hcapp := h.p.cap
  have hip : i < np := by rw [← hP]; exact (List.getElem?_eq_some_iff.1 hi).1
  have hB := loc_alloc w 26 (.slice As ns cs) (.slice Ap np cp) (.slice Ai ni ci)
  have B0 := Blk.new w #[.slice As ns cs, .slice Ap np cp, .slice Ai ni ci] 26
  have hh := h.belowU hB
  have hw : IntKind.i64.wrap ((i : Int) + 1) = (i : Int) + 1 := IntWalk.i64_in _ (by unfold maxLen at hcapp; omega)
  by_cases hlast : i + 1 < np
  · obtain ⟨b2, off2, q2, rfl, hbb2, hq2, hc2⟩ := hh.p.elem scCells_len (by omega) hlast
    have d2 := hc2 0 _ rfl
    rw [Nat.add_zero] at d2
    have ht2 : toN S P i = q2.from_.toNat := by unfold toN; rw [hq2]
    have n60 := n6 q2 hq2
    obtain ⟨gf, gc, gb⟩ := q2
    dsimp only at d2 ht2 n60
    obtain ⟨t', rfl⟩ := Int.eq_ofNat_of_zero_le n60
    rw [Int.toNat_natCast, ht] at ht2
    have HT := Lib.hid ht2
    have hi0 : (0 : Int) ≤ (i : Int) + 1 := by omega
    have hi1 : (i : Int) + 1 < (np : Int) := by omega
    have hd : decide ((i : Int) + 1 < (np : Int)) = true := by simp; omega
    clear hc2 hq2 ht ht2 n4 n5 hS hP hI hi
    go_enter Try.func42, Try.ntmps42
    go_wp2_with fail
    go_ret
    exact ⟨ret_si (by rw [HT.out]), hB⟩
  · have ht2 : toN S P i = ns := by unfold toN; rw [List.getElem?_eq_none (by omega)]; exact hS
    rw [ht] at ht2
    have HT := Lib.hid ht2
    have hd : decide ((i : Int) + 1 < (np : Int)) = false := by simp; omega
    clear ht ht2 n4 n5 hS hP hI hi
    go_enter Try.func42, Try.ntmps42
    go_wp2_with fail
    go_ret
    exact ⟨ret_si (by rw [HT.out]), hB⟩
end Go.Proofs.Ytmcdhpbkhchpeaa

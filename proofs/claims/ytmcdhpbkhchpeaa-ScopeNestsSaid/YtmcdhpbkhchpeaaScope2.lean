/- The contracts of slots and live: the slots of a scope, and how many of them are live. -/
import Derived.Test.YtmcdhpbkhchpeaaScope1
namespace Go.Proofs.Ytmcdhpbkhchpeaa
open Go.ChangeShapes Go.WideShapes Go.RowKit Words

def RetSl (w : World) (l : List Sl) (e : Ending) (w' : World) : Prop :=
  ∃ A' c', e = .returned (.slice A' l.length c') ∧ Reads w' w'.heap.size 3 A' l.length c' (l.flatMap slCells) ∧ Below w.heap.size w w'
set_option maxHeartbeats 1000000 in
theorem slots_any (As : Option Addr) (ns cs : Nat) (Ap : Option Addr) (np cp : Nat) (Ai : Option Addr) (ni ci : Nat) (S : List Sl) (P : List Sc) (I : List Int) (i : Nat) (q : Sc) (w : World) (h : LRd w As ns cs Ap np cp Ai ni ci S P I)
    (hi : P[i]? = some q) (hN : nestedB S P = true) :
    Calls Try.prog 48 #[locV As ns cs Ap np cp Ai ni ci, .int .i64 i] w (RetSl w (seg S q.from_.toNat (toN S P i))) := by
  obtain ⟨hS, hP, hI⟩ := h.lens
  obtain ⟨n0, n1, -, -, n4, n5, n6⟩ := nested_at hN hi
  have hle := h.s.le
  have hcap := h.s.cap
  have hlp := h.p.le
  have hcapp := h.p.cap
  have hip : i < np := by rw [← hP]; exact (List.getElem?_eq_some_iff.1 hi).1
  have hB := loc_alloc w 56 (.slice As ns cs) (.slice Ap np cp) (.slice Ai ni ci)
  have B0 := Blk.new w #[.slice As ns cs, .slice Ap np cp, .slice Ai ni ci] 56
  have hh := h.belowU hB
  obtain ⟨b, off, q0, rfl, hbb, hq, hc⟩ := hh.p.elem scCells_len (by omega) hip
  rw [hi] at hq
  obtain rfl := Option.some.inj hq
  have d0 := hc 0 _ rfl
  rw [Nat.add_zero] at d0
  obtain ⟨qf, qc, qb⟩ := q
  dsimp only at n0 n1 n4 d0 ⊢
  obtain ⟨f, rfl⟩ := Int.eq_ofNat_of_zero_le n0
  rw [Int.toNat_natCast] at n4 ⊢
  have hsl := seg_len S f (toN S P i) n4 n5
  have hi0 : (0 : Int) ≤ (i : Int) := by omega
  have hi1 : (i : Int) < (np : Int) := by omega
  have hw : IntKind.i64.wrap ((i : Int) + 1) = (i : Int) + 1 := IntWalk.i64_in _ (by unfold maxLen at hcapp; omega)
  have hf0 : (0 : Int) ≤ (f : Int) := by omega
  clear hc
  by_cases hlast : i + 1 < np
  · obtain ⟨b2, off2, q2, e2, hbb2, hq2, hc2⟩ := hh.p.elem scCells_len (by omega) hlast
    simp only [Option.some.injEq, Addr.mk.injEq, and_true] at e2
    obtain ⟨rfl, rfl⟩ := e2
    have d2 := hc2 0 _ rfl
    rw [Nat.add_zero] at d2
    have ht : toN S P i = q2.from_.toNat := by unfold toN; rw [hq2]
    have n60 := n6 q2 hq2
    obtain ⟨gf, gc, gb⟩ := q2
    dsimp only at d2 ht n60
    obtain ⟨t, rfl⟩ := Int.eq_ofNat_of_zero_le n60
    rw [Int.toNat_natCast] at ht
    rw [ht] at n4 n5 hsl ⊢
    have ht0 : (0 : Int) ≤ (t : Int) := by omega
    have hft : (f : Int) ≤ (t : Int) := by omega
    have htn : (t : Int) ≤ (cs : Int) := by omega
    have hd : decide ((i : Int) + 1 < (np : Int)) = true := by simp; omega
    have hcut := hh.s.cutA slCells_len (by omega) (i := f) (k := t - f) (by omega)
    have HC := Lib.hid hcut
    have HL := Lib.hid hsl
    clear hcut hsl ht h hh
    go_enter Try.func48, Try.ntmps48
    go_wp2_with fail
    go_quiet (fail)
    repeat (first | go_values | go_skip | go_guarded | go_step | go_upon)
    go_ret
    refine ⟨if cs = f then As else Option.map (fun x => x.add (f * 3)) As, cs - f, by rw [HL.out]; rfl, ?_, below_drewN hB _⟩
    rw [HL.out]
    exact HC.out.drewN _
  · have ht : toN S P i = ns := by unfold toN; rw [List.getElem?_eq_none (by omega)]; exact hS
    rw [ht] at n4 n5 hsl ⊢
    have hft : (f : Int) ≤ (ns : Int) := by omega
    have htn : (ns : Int) ≤ (cs : Int) := by omega
    have hd : decide ((i : Int) + 1 < (np : Int)) = false := by simp; omega
    have hcut := hh.s.cutA slCells_len (by omega) (i := f) (k := ns - f) (by omega)
    have HC := Lib.hid hcut
    have HL := Lib.hid hsl
    clear hcut hsl ht h hh
    go_enter Try.func48, Try.ntmps48
    go_wp2_with fail
    go_quiet (fail)
    repeat (first | go_values | go_skip | go_guarded | go_step | go_upon)
    go_ret
    refine ⟨if cs = f then As else Option.map (fun x => x.add (f * 3)) As, cs - f, by rw [HL.out]; rfl, ?_, below_drewN hB _⟩
    rw [HL.out]
    exact HC.out.drewN _

set_option maxHeartbeats 1000000 in
theorem live_any (As : Option Addr) (ns cs : Nat) (Ap : Option Addr) (np cp : Nat) (Ai : Option Addr) (ni ci : Nat) (S : List Sl) (P : List Sc) (I : List Int) (i : Nat) (q : Sc) (w : World) (h : LRd w As ns cs Ap np cp Ai ni ci S P I)
    (hi : P[i]? = some q) (hN : nestedB S P = true) :
    Calls Try.prog 35 #[locV As ns cs Ap np cp Ai ni ci, .int .i64 i] w fun e w' => e = .returned (.int .i64 (liveAt S P i)) ∧ Below w.heap.size w w' := by
  have hB := loc_alloc w 56 (.slice As ns cs) (.slice Ap np cp) (.slice Ai ni ci)
  have hh := h.belowU hB
  obtain ⟨l, hl⟩ : ∃ l, seg S q.from_.toNat (toN S P i) = l := ⟨_, rfl⟩
  have hv : liveAt S P i = cntLive l := by unfold liveAt; rw [hi]; dsimp only; rw [hl]
  rw [hv]
  have hlen : l.length ≤ maxLen := by
    have h1 := hh.s.le
    have h2 := hh.s.cap
    obtain ⟨hS, -, -⟩ := hh.lens
    obtain ⟨-, -, -, -, n4, n5, -⟩ := nested_at hN hi
    rw [← hl, seg_len _ _ _ n4 n5]; omega
  have HLEN := Lib.hid hlen
  clear hlen hv
  go_enter Try.func35, Try.ntmps35
  go_wp2_with fail
  refine (slots_any As ns cs Ap np cp Ai ni ci S P I i q _ hh hi hN).mono ?_
  rw [hl]
  rintro e w1 ⟨A1, c1, rfl, hr1, hb1⟩
  have hB1 := keep_below hb1 hB
  clear hh hi hN hl hB hb1 h
  go_wp2_with fail
  go_loopw [5, 12] (fun x y wq => ∃ k c : Nat, k ≤ l.length ∧ y = .int .i64 k ∧ x = .int .i64 c ∧ c ≤ k ∧ c + cntLive (l.drop k) = cntLive l ∧ Below w1.heap.size w1 wq) (fun _ y _ => l.length - (intOf y).toNat)
  case atStart => exact ⟨0, 0, Nat.zero_le _, rfl, rfl, Nat.le_refl _, by simp, Below.refl _ _⟩
  case round =>
    obtain ⟨k, c, hk, rfl, rfl, hck, hcnt, hb⟩ := hrel
    have hn := HLEN.out
    unfold maxLen at hn
    by_cases hlt : k < l.length
    · obtain ⟨b, off, x, rfl, hbb, hx, hc⟩ := (hr1.belowU hb).elem slCells_len (by omega) hlt
      have d0 := hc 0 _ rfl
      have d1 := hc 1 _ rfl
      have d2 := hc 2 _ rfl
      rw [Nat.add_zero] at d0
      have hdr := drop_at hx
      have hs : cntLive (l.drop k) = cntLive (l.drop (k + 1)) + (if x.live = true then 1 else 0) := by
        rw [hdr]; unfold cntLive; rw [List.countP_cons]
      have hk0 : (0 : Int) ≤ (k : Int) := by omega
      have hk1 : (k : Int) < (l.length : Int) := by omega
      obtain ⟨st, rf, lv⟩ := x
      dsimp only at d0 d1 d2 hs
      clear hc hx hdr
      cases lv with
      | true =>
        rw [if_pos rfl] at hs
        have HS := Lib.hid hs
        have HCN := Lib.hid hcnt
        have hwc : IntKind.i64.wrap ((c : Int) + 1) = (c : Int) + 1 := IntWalk.i64_in _ (by omega)
        clear hs hcnt
        go_wp2_with fail
        go_roundw
        case rel => exact ⟨k + 1, c + 1, by omega, by go_num, by go_num, by omega, by have := HS.out; have := HCN.out; omega, keep_alloc hb _⟩
        case measure => simp [intOf]; omega
      | false =>
        rw [if_neg (by decide)] at hs
        have HS := Lib.hid hs
        have HCN := Lib.hid hcnt
        clear hs hcnt
        go_wp2_with fail
        go_roundw
        case rel => exact ⟨k + 1, c, by omega, by go_num, rfl, by omega, by have := HS.out; have := HCN.out; omega, keep_alloc hb _⟩
        case measure => simp [intOf]; omega
    · have hkn : l.drop k = [] := List.drop_eq_nil_of_le (by omega)
      have hc0 : c = cntLive l := by rw [hkn] at hcnt; simpa [cntLive] using hcnt
      have HC := Lib.hid hc0
      clear hcnt hkn hc0
      go_wp2_with fail
      go_ret
      exact ⟨ret_si (by rw [HC.out]), keep_below hb hB1⟩
end Go.Proofs.Ytmcdhpbkhchpeaa

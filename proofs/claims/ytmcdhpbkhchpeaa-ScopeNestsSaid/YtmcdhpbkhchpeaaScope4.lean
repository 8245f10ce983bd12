/- The contracts of stamped and of scope.Valid. -/
import Derived.Test.YtmcdhpbkhchpeaaScope3
namespace Go.Proofs.Ytmcdhpbkhchpeaa
open Go.ChangeShapes Go.WideShapes Go.RowKit Words

theorem stampGo_bad {I : List Int} {s : Sl} {r : List Sl} {i : Nat} {last : Int} (h : s.stamp ≤ last ∨ s.stamp > I.length ∨ I[(s.stamp - 1).toNat]? ≠ some (i : Int) ∨ s.live = (s.ref == 0#64)) : stampGo I (s :: r) i last = false := by
  rw [stampGo, if_pos h]
theorem stampGo_ok {I : List Int} {s : Sl} {r : List Sl} {i : Nat} {last : Int} (h : ¬ (s.stamp ≤ last ∨ s.stamp > I.length ∨ I[(s.stamp - 1).toNat]? ≠ some (i : Int) ∨ s.live = (s.ref == 0#64))) : stampGo I (s :: r) i last = stampGo I r (i + 1) s.stamp := by
  rw [stampGo, if_neg h]

set_option linter.unusedSimpArgs false in
set_option maxHeartbeats 4000000 in
theorem stamped_any (As : Option Addr) (ns cs : Nat) (Ap : Option Addr) (np cp : Nat) (Ai : Option Addr) (ni ci : Nat) (S : List Sl) (P : List Sc) (I : List Int) (w : World) (h : LRd w As ns cs Ap np cp Ai ni ci S P I) :
    Calls Try.prog 40 #[locV As ns cs Ap np cp Ai ni ci] w fun e w' => e = .returned (.bool (stampGo I S 0 0)) ∧ Below w.heap.size w w' := by
  obtain ⟨hS, hP, hI⟩ := h.lens
  have hB := loc_alloc w 56 (.slice As ns cs) (.slice Ap np cp) (.slice Ai ni ci)
  have hh := h.belowU hB
  have B0 := Blk.new w #[.slice As ns cs, .slice Ap np cp, .slice Ai ni ci] 56
  have hcap := h.s.cap
  have hle := h.s.le
  have hcapi := h.i.cap
  have hlei := h.i.le
  unfold maxLen at hcap hcapi
  have HS := Lib.hid hS
  have HI := Lib.hid hI
  clear hS hP hI h
  go_enter Try.func40, Try.ntmps40
  go_wp2_with fail
  obtain ⟨w1, hw1⟩ : ∃ w1, w.alloc (.cells #[.slice As ns cs, .slice Ap np cp, .slice Ai ni ci] 56) = w1 := ⟨_, rfl⟩
  rw [hw1] at hB hh B0 ⊢
  clear hw1
  go_loopw [3, 10] (fun y x wq => ∃ (k : Nat) (last : Int), k ≤ ns ∧ x = .int .i64 k ∧ y = .int .i64 last ∧ 0 ≤ last ∧ Below w1.heap.size w1 wq ∧ stampGo I S 0 0 = stampGo I (S.drop k) k last) (fun _ x _ => ns - (intOf x).toNat)
  case atStart => exact ⟨0, 0, Nat.zero_le _, rfl, rfl, Int.le_refl _, Below.refl _ _, rfl⟩
  case round =>
    obtain ⟨k, last, hk, rfl, rfl, hl0, hb, hspec⟩ := hrel
    have hBr := keep_below hb hB
    have Br := B0.below hb
    by_cases hlt : k < ns
    · obtain ⟨b, off, x, rfl, hbb, hx, hc⟩ := (hh.belowU hb).s.elem slCells_len (by omega) hlt
      have d0 := hc 0 _ rfl
      have d1 := hc 1 _ rfl
      have d2 := hc 2 _ rfl
      rw [Nat.add_zero] at d0
      rw [drop_at hx] at hspec
      have hk0 : (0 : Int) ≤ (k : Int) := by omega
      have hk1 : (k : Int) < (ns : Int) := by omega
      have hbx := keep_alloc hb (.cells (slCells x).toArray 62)
      obtain ⟨st, rf, lv⟩ := x
      dsimp only [slCells] at d0 d1 d2 hbx
      have hBx := keep_below hbx hB
      have p0 : (wr.alloc (.cells #[.int .i64 st, .int .u64 (U rf), .bool lv] 62)).cell? ⟨w.heap.size, 2, none⟩ = some (.slice Ai ni ci) := (Br.alloc _).cell 2 _ rfl
      have hir := (hh.belowU hb).i.alloc (Nat.le_refl _) (.cells #[.int .i64 st, .int .u64 (U rf), .bool lv] 62)
      have HSP := Lib.hid hspec
      clear hspec hc hx
      by_cases c1 : st ≤ last
      · have HV2 := Lib.hid (show stampGo I S 0 0 = false by rw [HSP.out]; exact stampGo_bad (Or.inl c1))
        have e1 : decide (st ≤ last) = true := decide_eq_true c1
        go_wp2_with fail
        go_ret
        exact ⟨ret_sb HV2.out.symm, hBx⟩
      have e1 : decide (st ≤ last) = false := decide_eq_false c1
      by_cases c2 : (ni : Int) < st
      · have HV2 := Lib.hid (show stampGo I S 0 0 = false by rw [HSP.out]; exact stampGo_bad (Or.inr (Or.inl (by rw [HI.out]; exact c2))))
        have e2 : decide ((ni : Int) < st) = true := decide_eq_true c2
        go_wp2_with fail
        go_ret
        exact ⟨ret_sb HV2.out.symm, hBx⟩
      obtain ⟨m, rfl⟩ : ∃ m : Nat, st = (m : Int) + 1 := ⟨(st - 1).toNat, by omega⟩
      have e2 : decide ((ni : Int) < (m : Int) + 1) = false := decide_eq_false c2
      have hmi : m < ni := by omega
      obtain ⟨bi, offi, v, rfl, hbbi, hv, hci⟩ := hir.elem inCells_len (by omega) hmi
      have i0 := hci 0 _ rfl
      rw [Nat.add_zero, Nat.mul_one] at i0
      have hm0 : (0 : Int) ≤ (m : Int) := by omega
      have hm1 : (m : Int) < (ni : Int) := by omega
      have hwm : IntKind.i64.wrap ((m : Int) + 1 - 1) = (m : Int) := by rw [Int.add_sub_cancel]; exact IntWalk.i64_in _ (by omega)
      have hgi : I[((m : Int) + 1 - 1).toNat]? = some v := by rw [Int.add_sub_cancel, Int.toNat_natCast]; exact hv
      have HGI := Lib.hid hgi
      clear hir hci hv hgi
      by_cases c3 : v = k
      · have e3 : (v != (k : Int)) = false := by simp [c3]
        obtain ⟨z, hz⟩ : ∃ z, (rf == 0#64) = z := ⟨_, rfl⟩
        have hu : (U rf == 0) = z := by rw [← hz]; exact U_eq rf 0#64
        have HZ := Lib.hid hz
        have HC3 := Lib.hid c3
        have HC1 := Lib.hid c1
        have HC2 := Lib.hid c2
        clear hz c3 c1 c2
        by_cases c4 : lv = z
        · have HV2 := Lib.hid (show stampGo I S 0 0 = false by rw [HSP.out]; exact stampGo_bad (Or.inr (Or.inr (Or.inr (by rw [HZ.out]; exact c4)))))
          subst c4
          have e4 : (lv == lv) = true := by simp
          cases lv
          all_goals
            go_wp2_with fail
            go_ret
            exact ⟨ret_sb HV2.out.symm, hBx⟩
        · have HV2 := Lib.hid (show stampGo I S 0 0 = stampGo I (S.drop (k + 1)) (k + 1) ((m : Int) + 1) by
            rw [HSP.out, stampGo_ok (by
              rintro (h | h | h | h)
              · exact HC1.out h
              · exact HC2.out (by rw [← HI.out]; exact h)
              · exact h (by rw [HGI.out, HC3.out])
              · exact c4 (by rw [← HZ.out]; exact h))])
          have hz2 : z = !lv := by cases lv <;> cases z <;> simp_all
          subst hz2
          clear c4
          cases lv
          all_goals
            go_wp2_with fail
            go_roundw
            case rel => exact ⟨k + 1, (m : Int) + 1, by omega, by go_num, rfl, by omega, hbx, HV2.out⟩
            case measure => simp [intOf]; omega
      · have HV2 := Lib.hid (show stampGo I S 0 0 = false by rw [HSP.out]; exact stampGo_bad (Or.inr (Or.inr (Or.inl (by rw [HGI.out]; intro e; exact c3 (Option.some.inj e))))))
        have e3 : (v != (k : Int)) = true := by simp [c3]
        clear c3
        go_wp2_with fail
        go_ret
        exact ⟨ret_sb HV2.out.symm, hBx⟩
    · have HV2 := Lib.hid (show stampGo I S 0 0 = true by rw [hspec, List.drop_eq_nil_of_le (by have := HS.out; omega)]; rfl)
      clear hspec
      go_wp2_with fail
      go_ret
      exact ⟨ret_sb HV2.out.symm, hBr⟩

theorem roomB_at {S : List Sl} {P : List Sc} {k : Nat} {q : Sc} (hq : P[k]? = some q) : roomK S P k = decide ((liveAt S P k : Int) ≤ q.cap) := by unfold roomK; rw [hq]
theorem roomB_no {S : List Sl} {P : List Sc} {k : Nat} (hk : k < P.length) (h : roomK S P k = false) : roomB S P = false := by
  unfold roomB
  rw [List.all_eq_false]
  exact ⟨k, List.mem_range.2 hk, by rw [h]; decide⟩
theorem roomB_yes {S : List Sl} {P : List Sc} (h : ∀ k, k < P.length → roomK S P k = true) : roomB S P = true := by
  unfold roomB
  rw [List.all_eq_true]
  exact fun k hk => h k (List.mem_range.1 hk)
theorem live_val (As : Option Addr) (ns cs : Nat) (Ap : Option Addr) (np cp : Nat) (Ai : Option Addr) (ni ci : Nat) (S : List Sl) (P : List Sc) (I : List Int) (i : Nat) (q : Sc) (w : World) (c : Nat) (h : LRd w As ns cs Ap np cp Ai ni ci S P I)
    (hi : P[i]? = some q) (hN : nestedB S P = true) (hv : liveAt S P i = c) :
    Calls Try.prog 35 #[locV As ns cs Ap np cp Ai ni ci, .int .i64 i] w fun e w' => e = .returned (.int .i64 c) ∧ Below w.heap.size w w' := by
  rw [← hv]; exact live_any As ns cs Ap np cp Ai ni ci S P I i q w h hi hN
theorem validL_and {S : List Sl} {P : List Sc} {I : List Int} {a b c d : Bool} (ha : issB I = a) (hb : nestedB S P = b) (hc : stampGo I S 0 0 = c) (hd : roomB S P = d) : validL S P I = (a && (b && (c && d))) := by
  unfold validL; rw [ha, hb, hc, hd]

set_option linter.unusedSimpArgs false in
set_option maxHeartbeats 4000000 in
theorem valid_any (As : Option Addr) (ns cs : Nat) (Ap : Option Addr) (np cp : Nat) (Ai : Option Addr) (ni ci : Nat) (S : List Sl) (P : List Sc) (I : List Int) (w : World) (h : LRd w As ns cs Ap np cp Ai ni ci S P I) :
    Calls Try.prog 14 #[locV As ns cs Ap np cp Ai ni ci] w fun e w' => e = .returned (.bool (validL S P I)) ∧ Below w.heap.size w w' := by
  obtain ⟨hS, hP, hI⟩ := h.lens
  have hlp := h.p.le
  have hcapp := h.p.cap
  unfold maxLen at hcapp
  have hB0 := loc_alloc w 26 (.slice As ns cs) (.slice Ap np cp) (.slice Ai ni ci)
  have hB : Below w.heap.size w ((w.alloc (.cells #[.slice As ns cs, .slice Ap np cp, .slice Ai ni ci] 26)).alloc (.cells #[.slice As ns cs, .slice Ap np cp, .slice Ai ni ci] 56)) := keep_alloc hB0 _
  have hh := h.belowU hB
  have L0 := (Blk.new w #[.slice As ns cs, .slice Ap np cp, .slice Ai ni ci] 26).alloc (.cells #[.slice As ns cs, .slice Ap np cp, .slice Ai ni ci] 56)
  have F0 := Blk.newAt (w.alloc (.cells #[.slice As ns cs, .slice Ap np cp, .slice Ai ni ci] 26)) #[.slice As ns cs, .slice Ap np cp, .slice Ai ni ci] 56 (w.heap.size + 1) (by simp)
  have l2 := L0.cell 2 _ rfl
  by_cases t0 : 4096 < ni
  · have HV := Lib.hid (show validL S P I = false by rw [validL_and (a := false) (by unfold issB; rw [decide_eq_false (by omega)]; rfl) rfl rfl rfl]; rfl)
    have hd : decide ((4096 : Int) < (ni : Int)) = true := by simp; omega
    clear hh
    go_enter Try.func14, Try.ntmps14
    go_wp2_with fail
    go_ret
    exact ⟨ret_sb HV.out.symm, hB⟩
  have hd : decide ((4096 : Int) < (ni : Int)) = false := by simp; omega
  have his : issB I = !(I.any badIss) := by unfold issB; rw [decide_eq_true (by omega)]; rfl
  obtain ⟨ab, hab⟩ : ∃ ab, I.any badIss = ab := ⟨_, rfl⟩
  obtain ⟨nb, hnb⟩ : ∃ nb, nestedB S P = nb := ⟨_, rfl⟩
  obtain ⟨sb, hsb⟩ : ∃ sb, stampGo I S 0 0 = sb := ⟨_, rfl⟩
  rw [hab] at his
  have HV := Lib.hid (fun d hd => validL_and his hnb hsb (d := d) hd)
  have HAB := Lib.hid hab
  have HNB := Lib.hid hnb
  have HSB := Lib.hid hsb
  have HP := Lib.hid hP
  clear his hab hnb hsb t0 hS hP hI h
  go_enter Try.func14, Try.ntmps14
  go_wp2_with fail
  obtain ⟨w1, hw1⟩ : ∃ w1, (w.alloc (.cells #[.slice As ns cs, .slice Ap np cp, .slice Ai ni ci] 26)).alloc (.cells #[.slice As ns cs, .slice Ap np cp, .slice Ai ni ci] 56) = w1 := ⟨_, rfl⟩
  rw [hw1] at hB hh L0 F0 l2 ⊢
  clear hw1 hB0 hd
  refine (containsIss_any Ai ni ci I _ hh.i).mono ?_
  rw [HAB.out]
  rintro e w2 ⟨rfl, hb2⟩
  have hB2 := keep_below hb2 hB
  have F2 := F0.below hb2
  have hh2 := hh.belowU hb2
  have q0 : w2.cell? ⟨w.heap.size + 1, 0, none⟩ = some (.slice As ns cs) := F2.cell 0 _ rfl
  have q1 : w2.cell? ⟨w.heap.size + 1, 1, none⟩ = some (.slice Ap np cp) := F2.cell 1 _ rfl
  have q2 : w2.cell? ⟨w.heap.size + 1, 2, none⟩ = some (.slice Ai ni ci) := F2.cell 2 _ rfl
  clear hh F0 hb2 hB l2 L0
  cases ab with
  | true =>
    have HV2 := Lib.hid (HV.out _ rfl)
    go_wp2_with fail
    go_ret
    exact ⟨ret_sb HV2.out.symm, hB2⟩
  | false =>
    go_wp2_with fail
    refine (nested_any As ns cs Ap np cp Ai ni ci S P I _ hh2).mono ?_
    rw [HNB.out]
    rintro e w3 ⟨rfl, hb3⟩
    have hB3 := keep_below hb3 hB2
    have F3 := F2.below hb3
    have hh3 := hh2.belowU hb3
    have r0 : w3.cell? ⟨w.heap.size + 1, 0, none⟩ = some (.slice As ns cs) := F3.cell 0 _ rfl
    have r1 : w3.cell? ⟨w.heap.size + 1, 1, none⟩ = some (.slice Ap np cp) := F3.cell 1 _ rfl
    have r2 : w3.cell? ⟨w.heap.size + 1, 2, none⟩ = some (.slice Ai ni ci) := F3.cell 2 _ rfl
    clear q0 q1 q2 hh2 F2 hb3 hB2
    cases nb with
    | false =>
      have HV2 := Lib.hid (HV.out _ rfl)
      go_wp2_with fail
      go_ret
      exact ⟨ret_sb HV2.out.symm, hB3⟩
    | true =>
      go_wp2_with fail
      refine (stamped_any As ns cs Ap np cp Ai ni ci S P I _ hh3).mono ?_
      rw [HSB.out]
      rintro e w4 ⟨rfl, hb4⟩
      have hB4 := keep_below hb4 hB3
      have F4 := F3.below hb4
      have hh4 := hh3.belowU hb4
      have s0 : w4.cell? ⟨w.heap.size + 1, 0, none⟩ = some (.slice As ns cs) := F4.cell 0 _ rfl
      have s1 : w4.cell? ⟨w.heap.size + 1, 1, none⟩ = some (.slice Ap np cp) := F4.cell 1 _ rfl
      have s2 : w4.cell? ⟨w.heap.size + 1, 2, none⟩ = some (.slice Ai ni ci) := F4.cell 2 _ rfl
      clear r0 r1 r2 hh3 F3 hb4 hB3
      cases sb with
      | false =>
        have HV2 := Lib.hid (HV.out _ rfl)
        go_wp2_with fail
        go_ret
        exact ⟨ret_sb HV2.out.symm, hB4⟩
      | true =>
        go_wp2_with fail
        clear s0 s1 s2
        go_loopw [29] (fun x wq => ∃ k : Nat, k ≤ np ∧ x = .int .i64 k ∧ Below w4.heap.size w4 wq ∧ ∀ j, j < k → roomK S P j = true) (fun x _ => np - (intOf x).toNat)
        case atStart => exact ⟨0, Nat.zero_le _, rfl, Below.refl _ _, fun j hj => absurd hj (by omega)⟩
        case round =>
          obtain ⟨k, hk, rfl, hb, hroom⟩ := hrel
          have HR := Lib.hid hroom
          clear hroom
          by_cases hlt : k < np
          · obtain ⟨b, off, q, rfl, hbb, hq, hc⟩ := (hh4.belowU hb).p.elem scCells_len (by omega) hlt
            have d0 := hc 0 _ rfl
            have d1 := hc 1 _ rfl
            have d2 := hc 2 _ rfl
            rw [Nat.add_zero] at d0
            have hk0 : (0 : Int) ≤ (k : Int) := by omega
            have hk1 : (k : Int) < (np : Int) := by omega
            have hrk := roomB_at (S := S) hq
            obtain ⟨lc, hlc⟩ : ∃ lc, liveAt S P k = lc := ⟨_, rfl⟩
            rw [hlc] at hrk
            have HRK := Lib.hid hrk
            have HQ := Lib.hid hq
            have HLC := Lib.hid hlc
            obtain ⟨fr, ca, ba⟩ := q
            dsimp only [scCells] at d0 d1 d2 HRK
            have X := Blk.new wr #[.int .i64 fr, .int .i64 ca, .bool ba] 59
            have x1 := X.cell 1 _ rfl
            have hbx := keep_alloc hb (.cells #[.int .i64 fr, .int .i64 ca, .bool ba] 59)
            have hBx := keep_below hbx hB4
            have hhx := hh4.belowU hbx
            have Fx := F4.below hbx
            have f0 : (wr.alloc (.cells #[.int .i64 fr, .int .i64 ca, .bool ba] 59)).cell? ⟨w.heap.size + 1, 0, none⟩ = some (.slice As ns cs) := Fx.cell 0 _ rfl
            have f1 : (wr.alloc (.cells #[.int .i64 fr, .int .i64 ca, .bool ba] 59)).cell? ⟨w.heap.size + 1, 1, none⟩ = some (.slice (some ⟨b, off, none⟩) np cp) := Fx.cell 1 _ rfl
            have f2 : (wr.alloc (.cells #[.int .i64 fr, .int .i64 ca, .bool ba] 59)).cell? ⟨w.heap.size + 1, 2, none⟩ = some (.slice Ai ni ci) := Fx.cell 2 _ rfl
            clear hc hq hrk hlc X Fx
            go_wp2_with fail
            obtain ⟨dx, hdx⟩ : ∃ dx, wr.heap.size = dx := ⟨_, rfl⟩
            obtain ⟨wx, hwx⟩ : ∃ wx, wr.alloc (.cells #[.int .i64 fr, .int .i64 ca, .bool ba] 59) = wx := ⟨_, rfl⟩
            rw [hwx] at x1 hbx hBx hhx f0 f1 f2 ⊢
            rw [hdx] at x1 ⊢
            clear hwx hdx d0 d1 d2
            have Lx1 := Lag.cell x1
            have Lf0 := Lag.cell f0
            have Lf1 := Lag.cell f1
            have Lf2 := Lag.cell f2
            clear x1 f0 f1 f2
            refine wp_region_lag (by kernel_rfl) (by kernel_rfl) ?_
            repeat (go_big_quiet_step ((go_at_call 35; exact Calls.lag (live_val As ns cs _ np cp Ai ni ci S P I k _ _ lc (hhx.belowU (Lag.h _)) HQ.out HNB.out HLC.out))))
            refine wpQuiet_nil ?_
            rintro _ ⟨⟨w6, hb6⟩, rfl⟩
            by_cases hov : ca < (lc : Int)
            · have HV2 := Lib.hid (HV.out false (roomB_no (by rw [HP.out]; exact hlt) (by rw [HRK.out, decide_eq_false (by omega)])))
              have e1 : decide (ca < (lc : Int)) = true := decide_eq_true hov
              go_wp2_with fail
              go_ret
              exact ⟨ret_sb HV2.out.symm, keep_below hb6 hBx⟩
            · have e1 : decide (ca < (lc : Int)) = false := decide_eq_false hov
              go_wp2_with fail
              go_roundw
              case rel =>
                refine ⟨k + 1, by omega, by go_num, keep_below hb6 hbx, fun j hj => ?_⟩
                by_cases hjk : j < k
                · exact HR.out j hjk
                · obtain rfl : j = k := by omega
                  rw [HRK.out, decide_eq_true (by omega)]
              case measure => simp [intOf]; omega
          · have HV2 := Lib.hid (HV.out true (roomB_yes (fun k' hk' => HR.out k' (by rw [HP.out] at hk'; omega))))
            go_wp2_with fail
            go_ret
            exact ⟨ret_sb HV2.out.symm, keep_below hb hB4⟩
end Go.Proofs.Ytmcdhpbkhchpeaa

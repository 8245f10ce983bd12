/- The contract of the reference's Valid. -/
import Derived.Test.YtmcdhpbkhchpeaaScope5
namespace Go.Proofs.Ytmcdhpbkhchpeaa
open Go.ChangeShapes Go.WideShapes Go.RowKit Words

theorem validL_no1 {S : List Sl} {P : List Sc} {I : List Int} (h : issB I = false) : validL S P I = false := by unfold validL; rw [h]; rfl
theorem validL_no2 {S : List Sl} {P : List Sc} {I : List Int} (h : nestedB S P = false) : validL S P I = false := by unfold validL; rw [h]; simp
theorem validL_no3 {S : List Sl} {P : List Sc} {I : List Int} (h : stampGo I S 0 0 = false) : validL S P I = false := by unfold validL; rw [h]; simp
theorem validL_no4 {S : List Sl} {P : List Sc} {I : List Int} (h : roomB S P = false) : validL S P I = false := by unfold validL; rw [h]; simp

set_option linter.unusedSimpArgs false in
set_option maxRecDepth 100000 in
set_option maxHeartbeats 8000000 in
theorem rvalid_any (As : Option Addr) (ns cs : Nat) (Ap : Option Addr) (np cp : Nat) (Ai : Option Addr) (ni ci : Nat) (S : List Sl) (P : List Sc) (I : List Int) (w : World) (h : LRd w As ns cs Ap np cp Ai ni ci S P I) :
    Calls Try.prog 15 #[locV As ns cs Ap np cp Ai ni ci] w fun e w' => e = .returned (.bool (validL S P I)) ∧ Below w.heap.size w w' := by
  obtain ⟨hS, hP, hI⟩ := h.lens
  have hB := loc_alloc w 26 (.slice As ns cs) (.slice Ap np cp) (.slice Ai ni ci)
  have B0 := Blk.new w #[.slice As ns cs, .slice Ap np cp, .slice Ai ni ci] 26
  have hh := h.belowU hB
  have hcap := h.s.cap
  have hle := h.s.le
  have hcapi := h.i.cap
  have hlei := h.i.le
  have hcapp := h.p.cap
  have hlp := h.p.le
  unfold maxLen at hcap hcapi hcapp
  by_cases t0 : 4096 < ni
  · have HV := Lib.hid (show validL S P I = false from validL_no1 (by unfold issB; rw [decide_eq_false (by omega)]; rfl))
    have hd : decide ((4096 : Int) < (ni : Int)) = true := by simp; omega
    clear hh
    go_enter Try.func15, Try.ntmps15
    go_wp2_with fail
    go_ret
    exact ⟨ret_sb HV.out.symm, hB⟩
  have hd : decide ((4096 : Int) < (ni : Int)) = false := by simp; omega
  by_cases t1 : 64 < np
  · have HV := Lib.hid (show validL S P I = false from validL_no2 (nestedB_no (Or.inl (by omega))))
    have hd1 : decide ((64 : Int) < (np : Int)) = true := by simp; omega
    clear hh
    go_enter Try.func15, Try.ntmps15
    go_wp2_with fail
    go_ret
    exact ⟨ret_sb HV.out.symm, hB⟩
  have hd1 : decide ((64 : Int) < (np : Int)) = false := by simp; omega
  by_cases t2 : np = 0 ∧ 0 < ns
  · have HV := Lib.hid (show validL S P I = false from validL_no2 (nestedB_no (Or.inr (by omega))))
    have hz : ((np : Int) == 0) = true := by simp; omega
    obtain ⟨-, t2⟩ := t2
    clear hh
    go_enter Try.func15, Try.ntmps15
    go_wp2_with fail
    go_ret
    exact ⟨ret_sb HV.out.symm, hB⟩
  have HNY := Lib.hid (nestedB_yes (S := S) (P := P) (by omega))
  have HIY := Lib.hid (show issB I = !(I.any badIss) by unfold issB; rw [decide_eq_true (by omega)]; rfl)
  have HS := Lib.hid hS
  have HP := Lib.hid hP
  have HI := Lib.hid hI
  have HT2 := Lib.hid t2
  have a0 := B0.cell 0 _ rfl
  have a1 := B0.cell 1 _ rfl
  have a2 := B0.cell 2 _ rfl
  clear hS hP hI h t0 t1 t2
  have hcs0 : (((np : Int) == 0) = true ∧ decide (0 < ns) = false ∧ decide ((0 : Int) < (ns : Int)) = false) ∨ ((np : Int) == 0) = false ∧ True := by
    by_cases h : np = 0
    · left; exact ⟨by simp; omega, by have := HT2.out; simp; omega, by have := HT2.out; simp; omega⟩
    · right; exact ⟨by simp; omega, trivial⟩
  rcases hcs0 with ⟨hz, hnsN, hnsI⟩ | ⟨hz, -⟩
  all_goals
    go_enter Try.func15, Try.ntmps15
    go_wp2_with fail
    clear hz hd hd1
    obtain ⟨w1, hw1⟩ : ∃ w1, w.alloc (.cells #[.slice As ns cs, .slice Ap np cp, .slice Ai ni ci] 26) = w1 := ⟨_, rfl⟩
    rw [hw1] at hB hh B0 a0 a1 a2 ⊢
    clear hw1
    go_loopw [3] (fun x wq => ∃ k : Nat, k ≤ ni ∧ x = .int .i64 k ∧ wq = w1 ∧ I.any badIss = (I.drop k).any badIss) (fun x _ => ni - (intOf x).toNat)
    case atStart => exact ⟨0, Nat.zero_le _, rfl, rfl, rfl⟩
    case round =>
      obtain ⟨k, hk, rfl, rfl, hspec⟩ := hrel
      by_cases hlt : k < ni
      · obtain ⟨b, off, x, rfl, hbb, hx, hc⟩ := hh.i.elem inCells_len (by omega) hlt
        have d0 := hc 0 _ rfl
        rw [Nat.add_zero, Nat.mul_one] at d0
        rw [drop_at hx, List.any_cons] at hspec
        have hk0 : (0 : Int) ≤ (k : Int) := by omega
        have hk1 : (k : Int) < (ni : Int) := by omega
        have HSP := Lib.hid hspec
        clear hspec hc hx
        by_cases c1 : x < 0
        · have HV := Lib.hid (show validL S P I = false from validL_no1 (by rw [HIY.out, HSP.out]; unfold badIss; rw [decide_eq_true c1]; rfl))
          have e1 : decide (x < 0) = true := decide_eq_true c1
          go_wp2_with fail
          go_ret
          exact ⟨ret_sb HV.out.symm, hB⟩
        have e1 : decide (x < 0) = false := decide_eq_false c1
        by_cases c2 : 4095 < x
        · have HV := Lib.hid (show validL S P I = false from validL_no1 (by rw [HIY.out, HSP.out]; unfold badIss; rw [decide_eq_true (show 4096 ≤ x by omega)]; simp))
          have e2 : decide (4095 < x) = true := decide_eq_true c2
          go_wp2_with fail
          go_ret
          exact ⟨ret_sb HV.out.symm, hB⟩
        have e2 : decide (4095 < x) = false := decide_eq_false c2
        have HV := Lib.hid (show I.any badIss = (I.drop (k + 1)).any badIss by rw [HSP.out]; unfold badIss; rw [decide_eq_false c1, decide_eq_false (show ¬ 4096 ≤ x by omega)]; rfl)
        go_wp2_with fail
        go_roundw
        case rel => exact ⟨k + 1, by omega, by go_num, trivial, HV.out⟩
        case measure => simp [intOf]; omega
      · have HIS := Lib.hid (show issB I = true by rw [HIY.out, hspec, List.drop_eq_nil_of_le (by have := HI.out; omega)]; rfl)
        clear hspec
        go_wp2_with fail
        go_loopw [4, 5] (fun y x wq => ∃ (k : Nat) (last : Int), k ≤ ns ∧ x = .int .i64 k ∧ y = .int .i64 last ∧ 0 ≤ last ∧ Below wr.heap.size wr wq ∧ stampGo I S 0 0 = stampGo I (S.drop k) k last) (fun _ x _ => ns - (intOf x).toNat)
        case atStart => exact ⟨0, 0, Nat.zero_le _, rfl, rfl, Int.le_refl _, Below.refl _ _, rfl⟩
        case round =>
          obtain ⟨k, last, hk, rfl, rfl, hl0, hb, hspec⟩ := hrel
          have hBr := keep_below hb hB
          have Br := B0.below hb
          have b0 := Br.cell 0 _ rfl
          by_cases hlt : k < ns
          · obtain ⟨b, off, x, rfl, hbb, hx, hc⟩ := (hh.belowU hb).s.elem slCells_len (by omega) hlt
            have d0 := hc 0 _ rfl
            have d1 := hc 1 _ rfl
            have d2 := hc 2 _ rfl
            rw [Nat.add_zero] at d0
            rw [drop_at hx] at hspec
            have hk0 : (0 : Int) ≤ (k : Int) := by omega
            have hk1 : (k : Int) < (ns : Int) := by omega
            have hbx := keep_alloc hb (.cells (slCells x).toArray 62)
            obtain ⟨st, rf, lv⟩ := x
            dsimp only [slCells] at d0 d1 d2 hbx
            have hBx := keep_below hbx hB
            have p0 : (wr.alloc (.cells #[.int .i64 st, .int .u64 (U rf), .bool lv] 62)).cell? ⟨w.heap.size, 2, none⟩ = some (.slice Ai ni ci) := (Br.alloc _).cell 2 _ rfl
            have hir := (hh.belowU hb).i.alloc (Nat.le_refl _) (.cells #[.int .i64 st, .int .u64 (U rf), .bool lv] 62)
            have HSP := Lib.hid hspec
            clear hspec hc hx
            by_cases c1 : st ≤ last
            · have HV2 := Lib.hid (show validL S P I = false from validL_no3 (by rw [HSP.out]; exact stampGo_bad (Or.inl c1)))
              have e1 : decide (st ≤ last) = true := decide_eq_true c1
              go_wp2_with fail
              go_ret
              exact ⟨ret_sb HV2.out.symm, hBx⟩
            have e1 : decide (st ≤ last) = false := decide_eq_false c1
            by_cases c2 : (ni : Int) < st
            · have HV2 := Lib.hid (show validL S P I = false from validL_no3 (by rw [HSP.out]; exact stampGo_bad (Or.inr (Or.inl (by rw [HI.out]; exact c2)))))
              have e2 : decide ((ni : Int) < st) = true := decide_eq_true c2
              go_wp2_with fail
              go_ret
              exact ⟨ret_sb HV2.out.symm, hBx⟩
            obtain ⟨m, rfl⟩ : ∃ m : Nat, st = (m : Int) + 1 := ⟨(st - 1).toNat, by omega⟩
            have e2 : decide ((ni : Int) < (m : Int) + 1) = false := decide_eq_false c2
            have hmi : m < ni := by omega
            obtain ⟨bi, offi, v, rfl, hbbi, hv, hci⟩ := hir.elem inCells_len (by omega) hmi
            have i0 := hci 0 _ rfl
            rw [Nat.add_zero, Nat.mul_one] at i0
            have hm0 : (0 : Int) ≤ (m : Int) := by omega
            have hm1 : (m : Int) < (ni : Int) := by omega
            have hwm : IntKind.i64.wrap ((m : Int) + 1 - 1) = (m : Int) := by rw [Int.add_sub_cancel]; exact IntWalk.i64_in _ (by omega)
            have hgi : I[((m : Int) + 1 - 1).toNat]? = some v := by rw [Int.add_sub_cancel, Int.toNat_natCast]; exact hv
            have HGI := Lib.hid hgi
            clear hir hci hv hgi
            by_cases c3 : v = k
            · have e3 : (v != (k : Int)) = false := by simp [c3]
              obtain ⟨z, hz⟩ : ∃ z, (rf == 0#64) = z := ⟨_, rfl⟩
              have hu : (U rf != 0) = !z := by rw [← hz]; exact U_ne rf 0#64
              have HZ := Lib.hid hz
              have HC3 := Lib.hid c3
              have HC1 := Lib.hid c1
              have HC2 := Lib.hid c2
              clear hz c3 c1 c2
              by_cases c4 : lv = z
              · have HV2 := Lib.hid (show validL S P I = false from validL_no3 (by rw [HSP.out]; exact stampGo_bad (Or.inr (Or.inr (Or.inr (by rw [HZ.out]; exact c4))))))
                subst c4
                cases lv
                all_goals
                  go_wp2_with fail
                  go_ret
                  exact ⟨ret_sb HV2.out.symm, hBx⟩
              · have HV2 := Lib.hid (show stampGo I S 0 0 = stampGo I (S.drop (k + 1)) (k + 1) ((m : Int) + 1) by
                  rw [HSP.out, stampGo_ok (by
                    rintro (h | h | h | h)
                    · exact HC1.out h
                    · exact HC2.out (by rw [← HI.out]; exact h)
                    · exact h (by rw [HGI.out, HC3.out])
                    · exact c4 (by rw [← HZ.out]; exact h))])
                have hz2 : z = !lv := by cases lv <;> cases z <;> simp_all
                subst hz2
                clear c4
                cases lv
                all_goals
                  go_wp2_with fail
                  go_roundw
                  case rel => exact ⟨k + 1, (m : Int) + 1, by omega, by go_num, rfl, by omega, hbx, HV2.out⟩
                  case measure => simp [intOf]; omega
            · have HV2 := Lib.hid (show validL S P I = false from validL_no3 (by rw [HSP.out]; exact stampGo_bad (Or.inr (Or.inr (Or.inl (by rw [HGI.out]; intro e; exact c3 (Option.some.inj e)))))))
              have e3 : (v != (k : Int)) = true := by simp [c3]
              clear c3
              go_wp2_with fail
              go_ret
              exact ⟨ret_sb HV2.out.symm, hBx⟩
          · have HST := Lib.hid (show stampGo I S 0 0 = true by rw [hspec, List.drop_eq_nil_of_le (by have := HS.out; omega)]; rfl)
            clear hspec
            have b1 := Br.cell 1 _ rfl
            have hhr := hh.belowU hb
            clear a0 a1 a2
            go_wp2_with fail
            go_loopw [7, 8] (fun y x wq => ∃ (k : Nat) (f : Int), k ≤ np ∧ x = .int .i64 k ∧ y = .int .i64 f ∧ Below wr.heap.size wr wq ∧ nestGo S.length P 0 true = nestGo S.length (P.drop k) f (decide (k = 0))) (fun _ x _ => np - (intOf x).toNat)
            case atStart => exact ⟨0, 0, Nat.zero_le _, rfl, rfl, Below.refl _ _, rfl⟩
            case round =>
              obtain ⟨k, f, hk, rfl, rfl, hb2, hspec⟩ := hrel
              have hB2 := keep_below hb2 hBr
              have B2 := Br.below hb2
              have b1 := B2.cell 1 _ rfl
              by_cases hlt : k < np
              · obtain ⟨b, off, x, rfl, hbb, hx, hc⟩ := (hhr.belowU hb2).p.elem scCells_len (by omega) hlt
                have d0 := hc 0 _ rfl
                have d1 := hc 1 _ rfl
                have d2 := hc 2 _ rfl
                rw [Nat.add_zero] at d0
                rw [drop_at hx] at hspec
                have hk0 : (0 : Int) ≤ (k : Int) := by omega
                have hk1 : (k : Int) < (np : Int) := by omega
                have hbx := keep_alloc hb2 (.cells (scCells x).toArray 59)
                obtain ⟨fr, ca, ba⟩ := x
                dsimp only [scCells] at d0 d1 d2 hbx
                have hBx := keep_below hbx hBr
                have p0 : (wr.alloc (.cells #[.int .i64 fr, .int .i64 ca, .bool ba] 59)).cell? ⟨w.heap.size, 0, none⟩ = some (.slice As ns cs) := (B2.alloc _).cell 0 _ rfl
                have HSP := Lib.hid hspec
                clear hspec hc hx
                by_cases hA : k = 0 ∧ (fr ≠ 0 ∨ ba = false)
                · have HV2 := Lib.hid (show validL S P I = false from validL_no2 (by rw [HNY.out, HSP.out]; exact nestGo_bad (Or.inl ⟨by simp [hA.1], hA.2⟩)))
                  have hz : ((k : Int) == 0) = true := by simp; omega
                  obtain ⟨-, hA⟩ := hA
                  by_cases hfr : fr = 0
                  · have hba : ba = false := by rcases hA with h | h; exact absurd hfr h; exact h
                    have hf2 : (fr != 0) = false := by simp [hfr]
                    subst hba
                    clear hA hfr
                    go_wp2_with fail
                    go_ret
                    exact ⟨ret_sb HV2.out.symm, hBx⟩
                  · have hf2 : (fr != 0) = true := by simp [hfr]
                    clear hA
                    go_wp2_with fail
                    go_ret
                    exact ⟨ret_sb HV2.out.symm, hBx⟩
                have hcs : (((k : Int) == 0) = true ∧ (fr != 0) = false ∧ ba = true) ∨ ((k : Int) == 0) = false := by
                  by_cases h : k = 0
                  · left
                    have hn := fun e => hA ⟨h, e⟩
                    refine ⟨by simp; omega, ?_, ?_⟩
                    · by_cases hf : fr = 0
                      · simp [hf]
                      · exact absurd (Or.inl hf) hn
                    · cases ba
                      · exact absurd (Or.inr rfl) hn
                      · rfl
                  · right; simp; omega
                have HA := Lib.hid (show ¬ (decide (k = 0) = true ∧ (fr ≠ 0 ∨ ba = false)) by rw [decide_eq_true_eq]; exact hA)
                clear hA
                by_cases c1 : fr < f
                · have HV2 := Lib.hid (show validL S P I = false from validL_no2 (by rw [HNY.out, HSP.out]; exact nestGo_bad (Or.inr (Or.inl c1))))
                  have e1 : decide (fr < f) = true := decide_eq_true c1
                  rcases hcs with ⟨hz, hf2, rfl⟩ | hz
                  all_goals
                    go_wp2_with fail
                    go_ret
                    exact ⟨ret_sb HV2.out.symm, hBx⟩
                have e1 : decide (fr < f) = false := decide_eq_false c1
                by_cases c2 : (ns : Int) < fr
                · have HV2 := Lib.hid (show validL S P I = false from validL_no2 (by rw [HNY.out, HSP.out]; exact nestGo_bad (Or.inr (Or.inr (Or.inl (by rw [HS.out]; exact c2))))))
                  have e2 : decide ((ns : Int) < fr) = true := decide_eq_true c2
                  rcases hcs with ⟨hz, hf2, rfl⟩ | hz
                  all_goals
                    go_wp2_with fail
                    go_ret
                    exact ⟨ret_sb HV2.out.symm, hBx⟩
                have e2 : decide ((ns : Int) < fr) = false := decide_eq_false c2
                by_cases c3 : ca < 0
                · have HV2 := Lib.hid (show validL S P I = false from validL_no2 (by rw [HNY.out, HSP.out]; exact nestGo_bad (Or.inr (Or.inr (Or.inr (Or.inl c3))))))
                  have e3 : decide (ca < 0) = true := decide_eq_true c3
                  rcases hcs with ⟨hz, hf2, rfl⟩ | hz
                  all_goals
                    go_wp2_with fail
                    go_ret
                    exact ⟨ret_sb HV2.out.symm, hBx⟩
                have e3 : decide (ca < 0) = false := decide_eq_false c3
                by_cases c4 : 64 < ca
                · have HV2 := Lib.hid (show validL S P I = false from validL_no2 (by rw [HNY.out, HSP.out]; exact nestGo_bad (Or.inr (Or.inr (Or.inr (Or.inr c4))))))
                  have e4 : decide (64 < ca) = true := decide_eq_true c4
                  rcases hcs with ⟨hz, hf2, rfl⟩ | hz
                  all_goals
                    go_wp2_with fail
                    go_ret
                    exact ⟨ret_sb HV2.out.symm, hBx⟩
                have e4 : decide (64 < ca) = false := decide_eq_false c4
                have HV2 := Lib.hid (show nestGo S.length P 0 true = nestGo S.length (P.drop (k + 1)) fr (decide (k + 1 = 0)) by
                  rw [HSP.out, nestGo_ok (by rintro (h | h | h | h | h); exact HA.out h; exact c1 h; exact c2 (by rw [← HS.out]; exact h); exact c3 h; exact c4 h)]
                  simp)
                rcases hcs with ⟨hz, hf2, rfl⟩ | hz
                all_goals
                  go_wp2_with fail
                  go_roundw
                  case rel => exact ⟨k + 1, fr, by omega, by go_num, rfl, hbx, HV2.out⟩
                  case measure => simp [intOf]; omega
              · have HNB := Lib.hid (show nestedB S P = true by rw [HNY.out, hspec, List.drop_eq_nil_of_le (by have := HP.out; omega)]; rfl)
                clear hspec
                have hh2 := hhr.belowU hb2
                go_wp2_with fail
                obtain ⟨wn, hwn⟩ : ∃ wn, wr = wn := ⟨_, rfl⟩
                rw [hwn] at hB2 B2 b1 hh2 ⊢
                clear hwn
                go_loopw [10] (fun x wq => ∃ k : Nat, k ≤ np ∧ x = .int .i64 k ∧ Below wn.heap.size wn wq ∧ ∀ j, j < k → roomK S P j = true) (fun x _ => np - (intOf x).toNat)
                case atStart => exact ⟨0, Nat.zero_le _, rfl, Below.refl _ _, fun j hj => absurd hj (by omega)⟩
                case round =>
                  obtain ⟨k, hk, rfl, hb3, hroom⟩ := hrel
                  have HR := Lib.hid hroom
                  have B3 := B2.below hb3
                  have hB3 := keep_below hb3 hB2
                  have b1 := B3.cell 1 _ rfl
                  clear hroom
                  by_cases hlt : k < np
                  · obtain ⟨b, off, q, rfl, hbb, hq, hc⟩ := (hh2.belowU hb3).p.elem scCells_len (by omega) hlt
                    have d0 := hc 0 _ rfl
                    have d1 := hc 1 _ rfl
                    rw [Nat.add_zero] at d0
                    have hk0 : (0 : Int) ≤ (k : Int) := by omega
                    have hk1 : (k : Int) < (np : Int) := by omega
                    have hrk := roomB_at (S := S) hq
                    obtain ⟨n0, n1, -, -, n4, n5, -⟩ := nested_at HNB.out hq
                    obtain ⟨t, ht⟩ : ∃ t, toN S P k = t := ⟨_, rfl⟩
                    obtain ⟨fr, ca, ba⟩ := q
                    dsimp only [scCells] at d0 d1 hrk n0 n1 n4
                    obtain ⟨f, rfl⟩ := Int.eq_ofNat_of_zero_le n0
                    obtain ⟨lc, hlc⟩ : ∃ lc, cntLive (seg S f t) = lc := ⟨_, rfl⟩
                    have hla : liveAt S P k = lc := by unfold liveAt; rw [hq]; dsimp only; rw [Int.toNat_natCast, ht, hlc]
                    rw [hla] at hrk
                    rw [Int.toNat_natCast, ht] at n4
                    rw [ht] at n5
                    have hftn : f ≤ t ∧ t ≤ ns := ⟨n4, by rw [← HS.out]; exact n5⟩
                    have HRK := Lib.hid hrk
                    have HQ := Lib.hid hq
                    have HLC := Lib.hid hlc
                    have HT := Lib.hid ht
                    have HFT := Lib.hid hftn
                    have hhx := hh2.belowU hb3
                    have b0 := B3.cell 0 _ rfl
                    have b2 := B3.cell 2 _ rfl
                    clear hc hq hrk hlc hla ht n0 n1 n4 n5 hftn
                    go_wp2_with fail
                    have Lb0 := Lag.cell b0
                    have Lb1 := Lag.cell b1
                    have Lb2 := Lag.cell b2
                    have Ld0 := Lag.cell d0
                    have Ld1 := Lag.cell d1
                    clear b0 b1 b2 d0 d1
                    refine wp_region_lag (by kernel_rfl) (by kernel_rfl) ?_
                    repeat (go_big_quiet_step (first
                      | (go_at_call 42; exact Calls.lag (rto_val As ns cs _ np cp Ai ni ci S P I k t _ _ (hhx.belowU (Lag.h _)) HQ.out HNB.out HT.out))
                      | (go_at_call 41; exact Calls.lag (rlive_val As ns cs _ np cp Ai ni ci S P I f t lc _ (hhx.belowU (Lag.h _)) HFT.out.1 HFT.out.2 HLC.out))))
                    refine wpQuiet_nil ?_
                    rintro _ ⟨⟨w6, hb6⟩, rfl⟩
                    by_cases hov : ca < (lc : Int)
                    · have HV2 := Lib.hid (show validL S P I = false from validL_no4 (roomB_no (by rw [HP.out]; exact hlt) (by rw [HRK.out, decide_eq_false (by omega)])))
                      have e1 : decide (ca < (lc : Int)) = true := decide_eq_true hov
                      go_wp2_with fail
                      go_ret
                      exact ⟨ret_sb HV2.out.symm, keep_below hb6 hB3⟩
                    · have e1 : decide (ca < (lc : Int)) = false := decide_eq_false hov
                      go_wp2_with fail
                      go_roundw
                      case rel =>
                        refine ⟨k + 1, by omega, by go_num, keep_below hb6 hb3, fun j hj => ?_⟩
                        by_cases hjk : j < k
                        · exact HR.out j hjk
                        · obtain rfl : j = k := by omega
                          rw [HRK.out, decide_eq_true (by omega)]
                      case measure => simp [intOf]; omega
                  · have HV2 := Lib.hid (show validL S P I = true by rw [validL_and HIS.out HNB.out HST.out (roomB_yes (fun k' hk' => HR.out k' (by rw [HP.out] at hk'; omega)))]; rfl)
                    go_wp2_with fail
                    go_ret
                    exact ⟨ret_sb HV2.out.symm, hB3⟩
end Go.Proofs.Ytmcdhpbkhchpeaa

/- The contracts of nested and stamped, and of the look at the issued stamps. -/
import Derived.Test.YtmcdhpbkhchpeaaScope2
namespace Go.Proofs.Ytmcdhpbkhchpeaa
open Go.ChangeShapes Go.WideShapes Go.RowKit Words

theorem badIss_any (x : Int) (w : World) :
    Calls Try.prog 38 #[.int .i64 x] w fun e w' => e = .returned (.bool (badIss x)) ∧ Below w.heap.size w w' := by
  by_cases t0 : x < 0
  · have HV := Lib.hid (show badIss x = true by simp [badIss, t0])
    go_enter Try.func38, Try.ntmps38
    go_wp2
    go_ret
    exact ⟨ret_sb HV.out.symm, by go_grown⟩
  · have HV := Lib.hid (show badIss x = decide (4096 ≤ x) by simp [badIss, t0])
    go_enter Try.func38, Try.ntmps38
    go_wp2
    go_ret
    exact ⟨ret_sb HV.out.symm, by go_grown⟩
def badIssAt : List Int → Int → Int
  | [], _ => -1
  | x :: r, i => if badIss x then i else badIssAt r (i + 1)
theorem badIssAt_ge (l : List Int) (i : Int) (hi : 0 ≤ i) : decide (0 ≤ badIssAt l i) = l.any badIss := by
  induction l generalizing i with
  | nil => rfl
  | cons x r ih =>
    unfold badIssAt
    rw [List.any_cons]
    by_cases h : badIss x = true
    · rw [if_pos h, h, Bool.true_or, decide_eq_true hi]
    · rw [if_neg h, ih _ (by omega)]
      simp only [Bool.not_eq_true] at h
      rw [h, Bool.false_or]
theorem indexIss_any (A : Option Addr) (n c : Nat) (l : List Int) (w : World) (h : Reads w w.heap.size 1 A n c (l.flatMap intCells)) :
    Calls Try.prog 52 #[.slice A n c, .func (.func 38) #[] #[]] w fun e w' => e = .returned (.int .i64 (badIssAt l 0)) ∧ Below w.heap.size w w' := by
  have hlen := h.length inCells_len (by omega)
  have hcap := h.cap
  have hle := h.le
  unfold maxLen at hcap
  have HL := Lib.hid hlen
  clear hlen
  go_enter Try.func52, Try.ntmps52
  go_wp2_with fail
  go_loopw [8] (fun x wq => ∃ k : Nat, k ≤ n ∧ x = .int .i64 k ∧ Below w.heap.size w wq ∧ badIssAt l 0 = badIssAt (l.drop k) k) (fun x _ => n - (intOf x).toNat)
  case atStart => exact ⟨0, Nat.zero_le _, rfl, Below.refl _ _, rfl⟩
  case round =>
    obtain ⟨k, hk, rfl, hb, hspec⟩ := hrel
    by_cases hlt : k < n
    · obtain ⟨b, off, x, rfl, hbb, hx, hc⟩ := (h.below hb).elem inCells_len (by omega) hlt
      have c0 := hc 0 _ rfl
      rw [Nat.add_zero, Nat.mul_one] at c0
      rw [drop_at hx, badIssAt] at hspec
      have hk0 : (0 : Int) ≤ (k : Int) := by omega
      have hk1 : (k : Int) < (n : Int) := by omega
      have hsz := hb.size
      by_cases hbad : badIss x = true
      · rw [if_pos hbad] at hspec
        have H := Lib.hid hspec
        have HB := Lib.hid hbad
        clear hspec hx hc hbad
        go_wp2_with fail
        refine (badIss_any x _).mono ?_
        rintro e w' ⟨rfl, hb'⟩
        rw [HB.out]
        go_wp2_with fail
        go_ret
        exact ⟨by rw [H.out]; rfl, keep_below hb' hb⟩
      · rw [if_neg hbad] at hspec
        simp only [Bool.not_eq_true] at hbad
        have H := Lib.hid hspec
        have HB := Lib.hid hbad
        clear hspec hx hc hbad
        go_wp2_with fail
        refine (badIss_any x _).mono ?_
        rintro e w' ⟨rfl, hb'⟩
        rw [HB.out]
        go_wp2_with fail
        go_roundw
        case rel => exact ⟨k + 1, by omega, by go_num, keep_below hb' hb, H.out⟩
        case measure => simp [intOf]; omega
    · rw [drop_end HL.out hlt, badIssAt] at hspec
      have H := Lib.hid hspec
      clear hspec
      go_wp2_with fail
      go_ret
      exact ⟨by rw [H.out]; rfl, hb⟩
theorem containsIss_any (A : Option Addr) (n c : Nat) (l : List Int) (w : World) (h : Reads w w.heap.size 1 A n c (l.flatMap intCells)) :
    Calls Try.prog 37 #[.slice A n c, .func (.func 38) #[] #[]] w fun e w' => e = .returned (.bool (l.any badIss)) ∧ Below w.heap.size w w' := by
  have hge := badIssAt_ge l 0 (Int.le_refl _)
  obtain ⟨q, hq⟩ : ∃ q, badIssAt l 0 = q := ⟨_, rfl⟩
  rw [hq] at hge
  have HQ := Lib.hid hq
  have HG := Lib.hid hge
  clear hq hge
  go_enter Try.func37, Try.ntmps37
  go_wp2_with fail
  refine (indexIss_any A n c l _ h).mono ?_
  rw [HQ.out]
  rintro e w' ⟨rfl, hb⟩
  go_wp2_with fail
  go_ret
  exact ⟨ret_sb HG.out, hb⟩

theorem nestGo_bad {ns : Nat} {s : Sc} {r : List Sc} {f : Int} {b : Bool} (h : (b = true ∧ (s.from_ ≠ 0 ∨ s.base = false)) ∨ s.from_ < f ∨ s.from_ > ns ∨ s.cap < 0 ∨ s.cap > 64) : nestGo ns (s :: r) f b = false := by
  rw [nestGo, if_pos h]
theorem nestGo_ok {ns : Nat} {s : Sc} {r : List Sc} {f : Int} {b : Bool} (h : ¬ ((b = true ∧ (s.from_ ≠ 0 ∨ s.base = false)) ∨ s.from_ < f ∨ s.from_ > ns ∨ s.cap < 0 ∨ s.cap > 64)) : nestGo ns (s :: r) f b = nestGo ns r s.from_ false := by
  rw [nestGo, if_neg h]
theorem nestedB_no {S : List Sl} {P : List Sc} (h : P.length > 64 ∨ (P.length = 0 ∧ S.length > 0)) : nestedB S P = false := by unfold nestedB; rw [if_pos h]
theorem nestedB_yes {S : List Sl} {P : List Sc} (h : ¬ (P.length > 64 ∨ (P.length = 0 ∧ S.length > 0))) : nestedB S P = nestGo S.length P 0 true := by unfold nestedB; rw [if_neg h]

set_option linter.unusedSimpArgs false in
set_option maxHeartbeats 4000000 in
theorem nested_any (As : Option Addr) (ns cs : Nat) (Ap : Option Addr) (np cp : Nat) (Ai : Option Addr) (ni ci : Nat) (S : List Sl) (P : List Sc) (I : List Int) (w : World) (h : LRd w As ns cs Ap np cp Ai ni ci S P I) :
    Calls Try.prog 39 #[locV As ns cs Ap np cp Ai ni ci] w fun e w' => e = .returned (.bool (nestedB S P)) ∧ Below w.heap.size w w' := by
  obtain ⟨hS, hP, hI⟩ := h.lens
  have hB := loc_alloc w 56 (.slice As ns cs) (.slice Ap np cp) (.slice Ai ni ci)
  have hh := h.belowU hB
  have B0 := Blk.new w #[.slice As ns cs, .slice Ap np cp, .slice Ai ni ci] 56
  have hcapp := h.p.cap
  have hlp := h.p.le
  unfold maxLen at hcapp
  by_cases t0 : 64 < np
  · have HV := Lib.hid (nestedB_no (S := S) (P := P) (Or.inl (by omega)))
    have hd : decide ((64 : Int) < (np : Int)) = true := by simp; omega
    go_enter Try.func39, Try.ntmps39
    go_wp2_with fail
    go_ret
    exact ⟨ret_sb HV.out.symm, hB⟩
  have hd : decide ((64 : Int) < (np : Int)) = false := by simp; omega
  by_cases t1 : np = 0 ∧ 0 < ns
  · have HV := Lib.hid (nestedB_no (S := S) (P := P) (Or.inr (by omega)))
    have hz : ((np : Int) == 0) = true := by simp; omega
    obtain ⟨-, t1⟩ := t1
    have hd2 : decide (0 < ns) = true := decide_eq_true t1
    go_enter Try.func39, Try.ntmps39
    go_wp2_with fail
    go_ret
    exact ⟨ret_sb HV.out.symm, hB⟩
  have HV := Lib.hid (nestedB_yes (S := S) (P := P) (by omega))
  have HS := Lib.hid hS
  have HP := Lib.hid hP
  clear hS hP hI
  have key : ∀ w1, w1 = w.alloc (.cells #[.slice As ns cs, .slice Ap np cp, .slice Ai ni ci] 56) → Calls Try.prog 39 #[locV As ns cs Ap np cp Ai ni ci] w fun e w' => e = .returned (.bool (nestedB S P)) ∧ Below w.heap.size w w' := by
    intro w1 hw1
    rcases (show np = 0 ∧ ns = 0 ∨ np ≠ 0 by omega) with ⟨rfl, rfl⟩ | z1
    · have hP0 : P = [] := List.eq_nil_of_length_eq_zero (by have := HP.out; omega)
      have HV2 := Lib.hid (show nestedB S P = true by rw [HV.out, hP0]; rfl)
      clear t1 t0 hd hw1 hP0 hcapp hlp hh
      go_enter Try.func39, Try.ntmps39
      go_wp2_with fail
      go_loopw [29] (fun x wq => x = .int .i64 0 ∧ wq = w.alloc (.cells #[.slice As 0 cs, .slice Ap 0 cp, .slice Ai ni ci] 56)) (fun _ _ => 0)
      case atStart => exact ⟨rfl, rfl⟩
      case round =>
        obtain ⟨rfl, rfl⟩ := hrel
        go_wp2_with fail
        go_ret
        exact ⟨ret_sb HV2.out.symm, hB⟩
    · have hz : ((np : Int) == 0) = false := by simp; omega
      go_enter Try.func39, Try.ntmps39
      go_wp2_with fail
      rw [← hw1] at hB hh B0 ⊢
      clear hw1 hz z1
      go_loopw [3, 29] (fun y x wq => ∃ (k : Nat) (f : Int), k ≤ np ∧ x = .int .i64 k ∧ y = .int .i64 f ∧ Below w1.heap.size w1 wq ∧ nestGo S.length P 0 true = nestGo S.length (P.drop k) f (decide (k = 0))) (fun _ x _ => np - (intOf x).toNat)
      case atStart => exact ⟨0, 0, Nat.zero_le _, rfl, rfl, Below.refl _ _, rfl⟩
      case round =>
        obtain ⟨k, f, hk, rfl, rfl, hb, hspec⟩ := hrel
        have hBr := keep_below hb hB
        have Br := B0.below hb
        by_cases hlt : k < np
        · obtain ⟨b, off, x, rfl, hbb, hx, hc⟩ := (hh.belowU hb).p.elem scCells_len (by omega) hlt
          have d0 := hc 0 _ rfl
          have d1 := hc 1 _ rfl
          have d2 := hc 2 _ rfl
          rw [Nat.add_zero] at d0
          rw [drop_at hx] at hspec
          have hk0 : (0 : Int) ≤ (k : Int) := by omega
          have hk1 : (k : Int) < (np : Int) := by omega
          have q0 : wr.cell? ⟨w.heap.size, 0, none⟩ = some (.slice As ns cs) := Br.cell 0 _ rfl
          have hbx := keep_alloc hb (.cells (scCells x).toArray 59)
          obtain ⟨fr, ca, ba⟩ := x
          dsimp only [scCells] at d0 d1 d2 hbx
          have hBx := keep_below hbx hB
          have p0 : (wr.alloc (.cells #[.int .i64 fr, .int .i64 ca, .bool ba] 59)).cell? ⟨w.heap.size, 0, none⟩ = some (.slice As ns cs) := (Br.alloc _).cell 0 _ rfl
          have HSP := Lib.hid hspec
          clear hspec hc hx q0
          by_cases hA : k = 0 ∧ (fr ≠ 0 ∨ ba = false)
          · have HV2 := Lib.hid (show nestedB S P = false by rw [HV.out, HSP.out]; exact nestGo_bad (Or.inl ⟨by simp [hA.1], hA.2⟩))
            have hz : ((k : Int) == 0) = true := by simp; omega
            obtain ⟨-, hA⟩ := hA
            by_cases hfr : fr = 0
            · have hba : ba = false := by rcases hA with h | h; exact absurd hfr h; exact h
              have hf2 : (fr != 0) = false := by simp [hfr]
              subst hba
              clear hA hfr
              go_wp2_with fail
              go_ret
              exact ⟨ret_sb HV2.out.symm, hBx⟩
            · have hf2 : (fr != 0) = true := by simp [hfr]
              clear hA
              go_wp2_with fail
              go_ret
              exact ⟨ret_sb HV2.out.symm, hBx⟩
          have hcs : (((k : Int) == 0) = true ∧ (fr != 0) = false ∧ ba = true) ∨ ((k : Int) == 0) = false := by
            by_cases h : k = 0
            · left
              have hn := fun e => hA ⟨h, e⟩
              refine ⟨by simp; omega, ?_, ?_⟩
              · by_cases hf : fr = 0
                · simp [hf]
                · exact absurd (Or.inl hf) hn
              · cases ba
                · exact absurd (Or.inr rfl) hn
                · rfl
            · right; simp; omega
          have HA := Lib.hid (show ¬ (decide (k = 0) = true ∧ (fr ≠ 0 ∨ ba = false)) by rw [decide_eq_true_eq]; exact hA)
          clear hA
          by_cases c1 : fr < f
          · have HV2 := Lib.hid (show nestedB S P = false by rw [HV.out, HSP.out]; exact nestGo_bad (Or.inr (Or.inl c1)))
            have e1 : decide (fr < f) = true := decide_eq_true c1
            rcases hcs with ⟨hz, hf2, rfl⟩ | hz
            all_goals
              go_wp2_with fail
              go_ret
              exact ⟨ret_sb HV2.out.symm, hBx⟩
          have e1 : decide (fr < f) = false := decide_eq_false c1
          by_cases c2 : (ns : Int) < fr
          · have HV2 := Lib.hid (show nestedB S P = false by rw [HV.out, HSP.out]; exact nestGo_bad (Or.inr (Or.inr (Or.inl (by rw [HS.out]; exact c2)))))
            have e2 : decide ((ns : Int) < fr) = true := decide_eq_true c2
            rcases hcs with ⟨hz, hf2, rfl⟩ | hz
            all_goals
              go_wp2_with fail
              go_ret
              exact ⟨ret_sb HV2.out.symm, hBx⟩
          have e2 : decide ((ns : Int) < fr) = false := decide_eq_false c2
          by_cases c3 : ca < 0
          · have HV2 := Lib.hid (show nestedB S P = false by rw [HV.out, HSP.out]; exact nestGo_bad (Or.inr (Or.inr (Or.inr (Or.inl c3)))))
            have e3 : decide (ca < 0) = true := decide_eq_true c3
            rcases hcs with ⟨hz, hf2, rfl⟩ | hz
            all_goals
              go_wp2_with fail
              go_ret
              exact ⟨ret_sb HV2.out.symm, hBx⟩
          have e3 : decide (ca < 0) = false := decide_eq_false c3
          by_cases c4 : 64 < ca
          · have HV2 := Lib.hid (show nestedB S P = false by rw [HV.out, HSP.out]; exact nestGo_bad (Or.inr (Or.inr (Or.inr (Or.inr c4)))))
            have e4 : decide (64 < ca) = true := decide_eq_true c4
            rcases hcs with ⟨hz, hf2, rfl⟩ | hz
            all_goals
              go_wp2_with fail
              go_ret
              exact ⟨ret_sb HV2.out.symm, hBx⟩
          have e4 : decide (64 < ca) = false := decide_eq_false c4
          have HV2 := Lib.hid (show nestGo S.length P 0 true = nestGo S.length (P.drop (k + 1)) fr (decide (k + 1 = 0)) by
            rw [HSP.out, nestGo_ok (by rintro (h | h | h | h | h); exact HA.out h; exact c1 h; exact c2 (by rw [← HS.out]; exact h); exact c3 h; exact c4 h)]
            simp)
          rcases hcs with ⟨hz, hf2, rfl⟩ | hz
          all_goals
            go_wp2_with fail
            go_roundw
            case rel => exact ⟨k + 1, fr, by omega, by go_num, rfl, hbx, HV2.out⟩
            case measure => simp [intOf]; omega
        · have HV2 := Lib.hid (show nestedB S P = true by rw [HV.out, hspec, List.drop_eq_nil_of_le (by have := HP.out; omega)]; rfl)
          clear hspec
          go_wp2_with fail
          go_ret
          exact ⟨ret_sb HV2.out.symm, hBr⟩
  exact key _ rfl
end Go.Proofs.Ytmcdhpbkhchpeaa

/- The contracts of Enter, Push, and of Get (the program's and the reference's). PRINTED BY A PROGRAM (mk_scope9.py). -/
import Derived.Test.YtmcdhpbkhchpeaaScope8
import Derived.Test.YtmcdhpbkhchpeaaScope6
namespace Go.Proofs.Ytmcdhpbkhchpeaa
open Go.ChangeShapes Go.WideShapes Go.RowKit Words

set_option maxHeartbeats 1000000 in
theorem enter_any (As : Option Addr) (ns cs : Nat) (Ap : Option Addr) (np cp : Nat) (Ai : Option Addr) (ni ci : Nat) (S : List Sl) (P : List Sc) (I : List Int) (c : Int) (w : World) (h : LRd w As ns cs Ap np cp Ai ni ci S P I)
    (hs : ns ≤ 1000000) (hp : np ≤ 1000000) (hi : ni ≤ 1000000) :
    Calls Try.prog 9 #[locV As ns cs Ap np cp Ai ni ci, .int .i64 c] w (RetLE w (openL ⟨S, P, I⟩ c true)) := by
  have hB : Below w.heap.size w ((w.alloc (.cells #[.slice As ns cs, .slice Ap np cp, .slice Ai ni ci] 26)).alloc (.cells #[.slice none 0 0, .slice none 0 0, .slice none 0 0] 26)) := keep_alloc (loc_alloc w _ _ _ _) _
  have R0 := Blk.newAt (w.alloc (.cells #[.slice As ns cs, .slice Ap np cp, .slice Ai ni ci] 26)) #[.slice none 0 0, .slice none 0 0, .slice none 0 0] 26 (w.heap.size + 1) (by simp)
  have hh := h.belowU hB
  have hsz : w.heap.size + 2 ≤ ((w.alloc (.cells #[.slice As ns cs, .slice Ap np cp, .slice Ai ni ci] 26)).alloc (.cells #[.slice none 0 0, .slice none 0 0, .slice none 0 0] 26)).heap.size := by simp
  have HSZ := Lib.hid hsz
  clear h hsz
  obtain ⟨r, hr⟩ : ∃ r, openL ⟨S, P, I⟩ c true = r := ⟨_, rfl⟩
  rw [hr]
  have HR := Lib.hid hr
  clear hr
  go_enter Try.func9, Try.ntmps9
  go_wp2_with fail
  refine (open_any As ns cs Ap np cp Ai ni ci S P I c true _ hh hs hp hi).mono ?_
  rw [HR.out]
  rintro e w2 ⟨A1, c1, A2, c2, A3, c3, rfl, hown, hb2⟩
  have R2 := R0.below hb2
  have fr := R2.free
  have r0 := R2.cell 0 _ rfl
  have r1 := R2.cell 1 _ rfl
  have r2 := R2.cell 2 _ rfl
  have G := R2.set 0 (.slice A1 r.1.s.length c1) |>.set 1 (.slice A2 r.1.p.length c2) |>.set 2 (.slice A3 r.1.i.length c3)
  have g0 := G.cell 0 _ rfl
  have g1 := G.cell 1 _ rfl
  have g2 := G.cell 2 _ rfl
  have hO := hown.rebase (base' := w.heap.size + 2) HSZ.out
  have hO3 := ((hO.far (a := ⟨w.heap.size + 1, 0, none⟩) (by show w.heap.size + 1 < _; omega) (.slice A1 r.1.s.length c1)).far (a := ⟨w.heap.size + 1, 1, none⟩) (by show w.heap.size + 1 < _; omega) (.slice A2 r.1.p.length c2)).far (a := ⟨w.heap.size + 1, 2, none⟩) (by show w.heap.size + 1 < _; omega) (.slice A3 r.1.i.length c3)
  have HO := Lib.hid (hO3.rebase (base' := w.heap.size) (by omega))
  have HBF := Lib.hid (keep_set3 (keep_below hb2 hB) (.slice A1 r.1.s.length c1) (.slice A2 r.1.p.length c2) (.slice A3 r.1.i.length c3))
  clear G R2 hO hO3 hown hb2 R0 hB hh
  go_wp2_with fail
  refine bodyPost_ret (v := .tuple #[locV A1 r.1.s.length c1 A2 r.1.p.length c2 A3 r.1.i.length c3, .int .i64 r.2]) (by simp [results, Try.results9, go_sem, g0, g1, g2]) rfl ?_
  exact ⟨A1, c1, A2, c2, A3, c3, rfl, HO.out, HBF.out⟩

set_option maxHeartbeats 1000000 in
theorem push_any (As : Option Addr) (ns cs : Nat) (Ap : Option Addr) (np cp : Nat) (Ai : Option Addr) (ni ci : Nat) (S : List Sl) (P : List Sc) (I : List Int) (c : Int) (w : World) (h : LRd w As ns cs Ap np cp Ai ni ci S P I)
    (hs : ns ≤ 1000000) (hp : np ≤ 1000000) (hi : ni ≤ 1000000) :
    Calls Try.prog 20 #[locV As ns cs Ap np cp Ai ni ci, .int .i64 c] w (RetLE w (openL ⟨S, P, I⟩ c false)) := by
  have hB : Below w.heap.size w ((w.alloc (.cells #[.slice As ns cs, .slice Ap np cp, .slice Ai ni ci] 26)).alloc (.cells #[.slice none 0 0, .slice none 0 0, .slice none 0 0] 26)) := keep_alloc (loc_alloc w _ _ _ _) _
  have R0 := Blk.newAt (w.alloc (.cells #[.slice As ns cs, .slice Ap np cp, .slice Ai ni ci] 26)) #[.slice none 0 0, .slice none 0 0, .slice none 0 0] 26 (w.heap.size + 1) (by simp)
  have hh := h.belowU hB
  have hsz : w.heap.size + 2 ≤ ((w.alloc (.cells #[.slice As ns cs, .slice Ap np cp, .slice Ai ni ci] 26)).alloc (.cells #[.slice none 0 0, .slice none 0 0, .slice none 0 0] 26)).heap.size := by simp
  have HSZ := Lib.hid hsz
  clear h hsz
  obtain ⟨r, hr⟩ : ∃ r, openL ⟨S, P, I⟩ c false = r := ⟨_, rfl⟩
  rw [hr]
  have HR := Lib.hid hr
  clear hr
  go_enter Try.func20, Try.ntmps20
  go_wp2_with fail
  refine (open_any As ns cs Ap np cp Ai ni ci S P I c false _ hh hs hp hi).mono ?_
  rw [HR.out]
  rintro e w2 ⟨A1, c1, A2, c2, A3, c3, rfl, hown, hb2⟩
  have R2 := R0.below hb2
  have fr := R2.free
  have r0 := R2.cell 0 _ rfl
  have r1 := R2.cell 1 _ rfl
  have r2 := R2.cell 2 _ rfl
  have G := R2.set 0 (.slice A1 r.1.s.length c1) |>.set 1 (.slice A2 r.1.p.length c2) |>.set 2 (.slice A3 r.1.i.length c3)
  have g0 := G.cell 0 _ rfl
  have g1 := G.cell 1 _ rfl
  have g2 := G.cell 2 _ rfl
  have hO := hown.rebase (base' := w.heap.size + 2) HSZ.out
  have hO3 := ((hO.far (a := ⟨w.heap.size + 1, 0, none⟩) (by show w.heap.size + 1 < _; omega) (.slice A1 r.1.s.length c1)).far (a := ⟨w.heap.size + 1, 1, none⟩) (by show w.heap.size + 1 < _; omega) (.slice A2 r.1.p.length c2)).far (a := ⟨w.heap.size + 1, 2, none⟩) (by show w.heap.size + 1 < _; omega) (.slice A3 r.1.i.length c3)
  have HO := Lib.hid (hO3.rebase (base' := w.heap.size) (by omega))
  have HBF := Lib.hid (keep_set3 (keep_below hb2 hB) (.slice A1 r.1.s.length c1) (.slice A2 r.1.p.length c2) (.slice A3 r.1.i.length c3))
  clear G R2 hO hO3 hown hb2 R0 hB hh
  go_wp2_with fail
  refine bodyPost_ret (v := .tuple #[locV A1 r.1.s.length c1 A2 r.1.p.length c2 A3 r.1.i.length c3, .int .i64 r.2]) (by simp [results, Try.results20, go_sem, g0, g1, g2]) rfl ?_
  exact ⟨A1, c1, A2, c2, A3, c3, rfl, HO.out, HBF.out⟩

def getL (x : Lc) (i t : Int) : BitVec 64 × Int :=
  if x.valid = false then (0#64, 1)
  else if t < 1 ∨ (x.i.length : Int) < t ∨ x.i[(t - 1).toNat]? ≠ some i then (0#64, 6)
  else match x.s[i.toNat]? with
    | none => (0#64, 7)
    | some s => if s.stamp ≠ t then (0#64, 7) else if s.live = false then (0#64, 8) else (s.ref, 0)
theorem getL_arg {x : Lc} {i t : Int} (h : x.valid = false) : getL x i t = (0#64, 1) := by unfold getL; rw [if_pos h]
theorem getL_forged {x : Lc} {i t : Int} (h : x.valid = true) (h1 : t < 1 ∨ (x.i.length : Int) < t ∨ x.i[(t - 1).toNat]? ≠ some i) : getL x i t = (0#64, 6) := by unfold getL; rw [if_neg (by rw [h]; decide), if_pos h1]
theorem getL_far {x : Lc} {i t : Int} (h : x.valid = true) (h1 : ¬ (t < 1 ∨ (x.i.length : Int) < t ∨ x.i[(t - 1).toNat]? ≠ some i)) (h2 : x.s[i.toNat]? = none) : getL x i t = (0#64, 7) := by
  unfold getL; rw [if_neg (by rw [h]; decide), if_neg h1, h2]
theorem getL_at {x : Lc} {i t : Int} {s : Sl} (h : x.valid = true) (h1 : ¬ (t < 1 ∨ (x.i.length : Int) < t ∨ x.i[(t - 1).toNat]? ≠ some i)) (h2 : x.s[i.toNat]? = some s) :
    getL x i t = if s.stamp ≠ t then (0#64, 7) else if s.live = false then (0#64, 8) else (s.ref, 0) := by
  unfold getL; rw [if_neg (by rw [h]; decide), if_neg h1, h2]
theorem valid_iss {x : Lc} (h : x.valid = true) : ∀ v ∈ x.i, 0 ≤ v ∧ v < 4096 := by
  unfold Lc.valid validL issB at h
  simp only [Bool.and_eq_true, decide_eq_true_eq, Bool.not_eq_true'] at h
  intro v hv
  have := List.any_eq_false.1 h.1.2 v hv
  unfold badIss at this
  simp at this
  omega
/-- a word and an error code come back -/
def retG (r : BitVec 64 × Int) : Ending := .returned (.tuple #[.int .u64 (U r.1), .int .i64 r.2])

set_option linter.unusedSimpArgs false in
set_option maxHeartbeats 4000000 in
theorem get_any (As : Option Addr) (ns cs : Nat) (Ap : Option Addr) (np cp : Nat) (Ai : Option Addr) (ni ci : Nat) (S : List Sl) (P : List Sc) (I : List Int) (i t : Int) (w : World) (h : LRd w As ns cs Ap np cp Ai ni ci S P I) :
    Calls Try.prog 28 #[locV As ns cs Ap np cp Ai ni ci, .int .i64 i, .int .i64 t] w fun e w' => e = retG (getL ⟨S, P, I⟩ i t) ∧ Below w.heap.size w w' := by
  obtain ⟨hS, hP, hI⟩ := h.lens
  have hB := loc_alloc w 26 (.slice As ns cs) (.slice Ap np cp) (.slice Ai ni ci)
  have B0 := Blk.new w #[.slice As ns cs, .slice Ap np cp, .slice Ai ni ci] 26
  have hh := h.belowU hB
  have hcap := h.s.cap
  have hle := h.s.le
  have hcapi := h.i.cap
  have hlei := h.i.le
  unfold maxLen at hcap hcapi
  have HS := Lib.hid hS
  have HI := Lib.hid hI
  obtain ⟨vb, hvb⟩ : ∃ vb, validL S P I = vb := ⟨_, rfl⟩
  have HVB := Lib.hid hvb
  clear hS hP hI h hvb
  cases vb with
  | false =>
    have HR := Lib.hid (show getL ⟨S, P, I⟩ i t = _ from getL_arg HVB.out)
    go_enter Try.func28, Try.ntmps28
    go_wp2_with fail
    refine (valid_any As ns cs Ap np cp Ai ni ci S P I _ hh).mono ?_
    rw [HVB.out]
    rintro e w1 ⟨rfl, hb1⟩
    go_wp2_with fail
    go_ret2
    exact ⟨by rw [HR.out]; rfl, keep_below hb1 hB⟩
  | true =>
    have HVT := Lib.hid (show (⟨S, P, I⟩ : Lc).valid = true from HVB.out)
    go_enter Try.func28, Try.ntmps28
    go_wp2_with fail
    refine (valid_any As ns cs Ap np cp Ai ni ci S P I _ hh).mono ?_
    rw [HVB.out]
    rintro e w1 ⟨rfl, hb1⟩
    have hB1 := keep_below hb1 hB
    have B1 := B0.below hb1
    have hh1 := hh.belowU hb1
    have b0 := B1.cell 0 _ rfl
    have b2 := B1.cell 2 _ rfl
    clear B0 hh hb1 hB B1
    by_cases c1 : t < 1
    · have HR := Lib.hid (show getL ⟨S, P, I⟩ i t = _ from getL_forged HVT.out (Or.inl c1))
      have e1 : decide (t < 1) = true := decide_eq_true c1
      go_wp2_with fail
      go_ret2
      exact ⟨by rw [HR.out]; rfl, hB1⟩
    have e1 : decide (t < 1) = false := decide_eq_false c1
    by_cases c2 : (ni : Int) < t
    · have HR := Lib.hid (show getL ⟨S, P, I⟩ i t = _ from getL_forged HVT.out (Or.inr (Or.inl (by dsimp only; rw [HI.out]; exact c2))))
      have e2 : decide ((ni : Int) < t) = true := decide_eq_true c2
      go_wp2_with fail
      go_ret2
      exact ⟨by rw [HR.out]; rfl, hB1⟩
    obtain ⟨m, rfl⟩ : ∃ m : Nat, t = (m : Int) + 1 := ⟨(t - 1).toNat, by omega⟩
    have e2 : decide ((ni : Int) < (m : Int) + 1) = false := decide_eq_false c2
    have hmi : m < ni := by omega
    obtain ⟨bi, offi, v, rfl, hbbi, hv, hci⟩ := hh1.i.elem inCells_len (by omega) hmi
    have i0 := hci 0 _ rfl
    rw [Nat.add_zero, Nat.mul_one] at i0
    have hm0 : (0 : Int) ≤ (m : Int) := by omega
    have hm1 : (m : Int) < (ni : Int) := by omega
    have hwm : IntKind.i64.wrap ((m : Int) + 1 - 1) = (m : Int) := by rw [Int.add_sub_cancel]; exact IntWalk.i64_in _ (by omega)
    have hgi : I[((m : Int) + 1 - 1).toNat]? = some v := by rw [Int.add_sub_cancel, Int.toNat_natCast]; exact hv
    have hv0 := valid_iss HVT.out v (List.mem_of_getElem? hv)
    have HGI := Lib.hid hgi
    clear hci hv hgi
    by_cases c3 : v = i
    · subst c3
      have HNF := Lib.hid (show ¬ ((m : Int) + 1 < 1 ∨ ((⟨S, P, I⟩ : Lc).i.length : Int) < (m : Int) + 1 ∨ (⟨S, P, I⟩ : Lc).i[((m : Int) + 1 - 1).toNat]? ≠ some v) by
        dsimp only
        rintro (h | h | h)
        · exact c1 h
        · rw [HI.out] at h; exact c2 h
        · exact h HGI.out)
      have e3 : (v != v) = false := by simp
      obtain ⟨k, rfl⟩ := Int.eq_ofNat_of_zero_le hv0.1
      clear c1 c2 hv0
      by_cases c4 : ns ≤ k
      · have HR := Lib.hid (show getL ⟨S, P, I⟩ k ((m : Int) + 1) = _ from getL_far HVT.out HNF.out (by dsimp only; rw [Int.toNat_natCast, List.getElem?_eq_none (by rw [HS.out]; exact c4)]))
        have e4 : decide ((ns : Int) ≤ (k : Int)) = true := by simp; omega
        have e4n : decide (ns ≤ k) = true := decide_eq_true c4
        go_wp2_with fail
        go_ret2
        exact ⟨by rw [HR.out]; rfl, hB1⟩
      have e4 : decide ((ns : Int) ≤ (k : Int)) = false := by simp; omega
      have e4n : decide (ns ≤ k) = false := decide_eq_false c4
      obtain ⟨b, off, x, rfl, hbb, hx, hc⟩ := hh1.s.elem slCells_len (by omega) (show k < ns by omega)
      have HR := Lib.hid (show getL ⟨S, P, I⟩ k ((m : Int) + 1) = _ from getL_at HVT.out HNF.out (by dsimp only; rw [Int.toNat_natCast]; exact hx))
      have d0 := hc 0 _ rfl
      have d1 := hc 1 _ rfl
      have d2 := hc 2 _ rfl
      rw [Nat.add_zero] at d0
      have hk0 : (0 : Int) ≤ (k : Int) := by omega
      have hk1 : (k : Int) < (ns : Int) := by omega
      obtain ⟨st, rf, lv⟩ := x
      dsimp only at d0 d1 d2 HR
      clear hc hx c4
      by_cases c5 : st = (m : Int) + 1
      · have HR2 := Lib.hid (HR.out.trans (if_neg (fun h => h c5)))
        have e5 : (st != (m : Int) + 1) = false := by simp [c5]
        clear c5
        cases lv with
        | false =>
          have HR3 := Lib.hid (HR2.out.trans (if_pos rfl))
          go_wp2_with fail
          go_ret2
          exact ⟨by rw [HR3.out]; rfl, hB1⟩
        | true =>
          have HR3 := Lib.hid (HR2.out.trans (if_neg (by decide)))
          go_wp2_with fail
          go_ret2
          exact ⟨by rw [HR3.out]; rfl, hB1⟩
      · have HR2 := Lib.hid (HR.out.trans (if_pos c5))
        have e5 : (st != (m : Int) + 1) = true := by simp [c5]
        clear c5
        go_wp2_with fail
        go_ret2
        exact ⟨by rw [HR2.out]; rfl, hB1⟩
    · have HR := Lib.hid (show getL ⟨S, P, I⟩ i ((m : Int) + 1) = _ from getL_forged HVT.out (Or.inr (Or.inr (by dsimp only; rw [HGI.out]; intro e; exact c3 (Option.some.inj e)))))
      have e3 : (v != i) = true := by simp [c3]
      clear c3
      go_wp2_with fail
      go_ret2
      exact ⟨by rw [HR.out]; rfl, hB1⟩

set_option linter.unusedSimpArgs false in
set_option maxHeartbeats 4000000 in
theorem rget_any (As : Option Addr) (ns cs : Nat) (Ap : Option Addr) (np cp : Nat) (Ai : Option Addr) (ni ci : Nat) (S : List Sl) (P : List Sc) (I : List Int) (i t : Int) (w : World) (h : LRd w As ns cs Ap np cp Ai ni ci S P I) :
    Calls Try.prog 29 #[locV As ns cs Ap np cp Ai ni ci, .int .i64 i, .int .i64 t] w fun e w' => e = retG (getL ⟨S, P, I⟩ i t) ∧ Below w.heap.size w w' := by
  obtain ⟨hS, hP, hI⟩ := h.lens
  have hB := loc_alloc w 26 (.slice As ns cs) (.slice Ap np cp) (.slice Ai ni ci)
  have B0 := Blk.new w #[.slice As ns cs, .slice Ap np cp, .slice Ai ni ci] 26
  have hh := h.belowU hB
  have hcap := h.s.cap
  have hle := h.s.le
  have hcapi := h.i.cap
  have hlei := h.i.le
  unfold maxLen at hcap hcapi
  have HS := Lib.hid hS
  have HI := Lib.hid hI
  obtain ⟨vb, hvb⟩ : ∃ vb, validL S P I = vb := ⟨_, rfl⟩
  have HVB := Lib.hid hvb
  clear hS hP hI h hvb
  cases vb with
  | false =>
    have HR := Lib.hid (show getL ⟨S, P, I⟩ i t = _ from getL_arg HVB.out)
    go_enter Try.func29, Try.ntmps29
    go_wp2_with fail
    refine (rvalid_any As ns cs Ap np cp Ai ni ci S P I _ hh).mono ?_
    rw [HVB.out]
    rintro e w1 ⟨rfl, hb1⟩
    go_wp2_with fail
    go_ret2
    exact ⟨by rw [HR.out]; rfl, keep_below hb1 hB⟩
  | true =>
    have HVT := Lib.hid (show (⟨S, P, I⟩ : Lc).valid = true from HVB.out)
    go_enter Try.func29, Try.ntmps29
    go_wp2_with fail
    refine (rvalid_any As ns cs Ap np cp Ai ni ci S P I _ hh).mono ?_
    rw [HVB.out]
    rintro e w1 ⟨rfl, hb1⟩
    have hB1 := keep_below hb1 hB
    have B1 := B0.below hb1
    have hh1 := hh.belowU hb1
    have b0 := B1.cell 0 _ rfl
    have b2 := B1.cell 2 _ rfl
    clear B0 hh hb1 hB B1
    by_cases c1 : t < 1
    · have HR := Lib.hid (show getL ⟨S, P, I⟩ i t = _ from getL_forged HVT.out (Or.inl c1))
      have e1 : decide (t < 1) = true := decide_eq_true c1
      go_wp2_with fail
      go_ret2
      exact ⟨by rw [HR.out]; rfl, hB1⟩
    have e1 : decide (t < 1) = false := decide_eq_false c1
    by_cases c2 : (ni : Int) < t
    · have HR := Lib.hid (show getL ⟨S, P, I⟩ i t = _ from getL_forged HVT.out (Or.inr (Or.inl (by dsimp only; rw [HI.out]; exact c2))))
      have e2 : decide ((ni : Int) < t) = true := decide_eq_true c2
      go_wp2_with fail
      go_ret2
      exact ⟨by rw [HR.out]; rfl, hB1⟩
    obtain ⟨m, rfl⟩ : ∃ m : Nat, t = (m : Int) + 1 := ⟨(t - 1).toNat, by omega⟩
    have e2 : decide ((ni : Int) < (m : Int) + 1) = false := decide_eq_false c2
    have hmi : m < ni := by omega
    obtain ⟨bi, offi, v, rfl, hbbi, hv, hci⟩ := hh1.i.elem inCells_len (by omega) hmi
    have i0 := hci 0 _ rfl
    rw [Nat.add_zero, Nat.mul_one] at i0
    have hm0 : (0 : Int) ≤ (m : Int) := by omega
    have hm1 : (m : Int) < (ni : Int) := by omega
    have hwm : IntKind.i64.wrap ((m : Int) + 1 - 1) = (m : Int) := by rw [Int.add_sub_cancel]; exact IntWalk.i64_in _ (by omega)
    have hgi : I[((m : Int) + 1 - 1).toNat]? = some v := by rw [Int.add_sub_cancel, Int.toNat_natCast]; exact hv
    have hv0 := valid_iss HVT.out v (List.mem_of_getElem? hv)
    have HGI := Lib.hid hgi
    clear hci hv hgi
    by_cases c3 : v = i
    · subst c3
      have HNF := Lib.hid (show ¬ ((m : Int) + 1 < 1 ∨ ((⟨S, P, I⟩ : Lc).i.length : Int) < (m : Int) + 1 ∨ (⟨S, P, I⟩ : Lc).i[((m : Int) + 1 - 1).toNat]? ≠ some v) by
        dsimp only
        rintro (h | h | h)
        · exact c1 h
        · rw [HI.out] at h; exact c2 h
        · exact h HGI.out)
      have e3 : (v != v) = false := by simp
      obtain ⟨k, rfl⟩ := Int.eq_ofNat_of_zero_le hv0.1
      clear c1 c2 hv0
      by_cases c4 : ns ≤ k
      · have HR := Lib.hid (show getL ⟨S, P, I⟩ k ((m : Int) + 1) = _ from getL_far HVT.out HNF.out (by dsimp only; rw [Int.toNat_natCast, List.getElem?_eq_none (by rw [HS.out]; exact c4)]))
        have e4 : decide ((ns : Int) ≤ (k : Int)) = true := by simp; omega
        have e4n : decide (ns ≤ k) = true := decide_eq_true c4
        go_wp2_with fail
        go_ret2
        exact ⟨by rw [HR.out]; rfl, hB1⟩
      have e4 : decide ((ns : Int) ≤ (k : Int)) = false := by simp; omega
      have e4n : decide (ns ≤ k) = false := decide_eq_false c4
      obtain ⟨b, off, x, rfl, hbb, hx, hc⟩ := hh1.s.elem slCells_len (by omega) (show k < ns by omega)
      have HR := Lib.hid (show getL ⟨S, P, I⟩ k ((m : Int) + 1) = _ from getL_at HVT.out HNF.out (by dsimp only; rw [Int.toNat_natCast]; exact hx))
      have d0 := hc 0 _ rfl
      have d1 := hc 1 _ rfl
      have d2 := hc 2 _ rfl
      rw [Nat.add_zero] at d0
      have hk0 : (0 : Int) ≤ (k : Int) := by omega
      have hk1 : (k : Int) < (ns : Int) := by omega
      obtain ⟨st, rf, lv⟩ := x
      dsimp only at d0 d1 d2 HR
      clear hc hx c4
      by_cases c5 : st = (m : Int) + 1
      · have HR2 := Lib.hid (HR.out.trans (if_neg (fun h => h c5)))
        have e5 : (st != (m : Int) + 1) = false := by simp [c5]
        clear c5
        cases lv with
        | false =>
          have HR3 := Lib.hid (HR2.out.trans (if_pos rfl))
          go_wp2_with fail
          go_ret2
          exact ⟨by rw [HR3.out]; rfl, hB1⟩
        | true =>
          have HR3 := Lib.hid (HR2.out.trans (if_neg (by decide)))
          go_wp2_with fail
          go_ret2
          exact ⟨by rw [HR3.out]; rfl, hB1⟩
      · have HR2 := Lib.hid (HR.out.trans (if_pos c5))
        have e5 : (st != (m : Int) + 1) = true := by simp [c5]
        clear c5
        go_wp2_with fail
        go_ret2
        exact ⟨by rw [HR2.out]; rfl, hB1⟩
    · have HR := Lib.hid (show getL ⟨S, P, I⟩ i ((m : Int) + 1) = _ from getL_forged HVT.out (Or.inr (Or.inr (by dsimp only; rw [HGI.out]; intro e; exact c3 (Option.some.inj e)))))
      have e3 : (v != i) = true := by simp [c3]
      clear c3
      go_wp2_with fail
      go_ret2
      exact ⟨by rw [HR.out]; rfl, hB1⟩
end Go.Proofs.Ytmcdhpbkhchpeaa

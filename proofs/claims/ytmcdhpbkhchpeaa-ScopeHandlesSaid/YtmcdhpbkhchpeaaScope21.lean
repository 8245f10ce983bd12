/- The contract of the reference's Move. Printed by mk_scope21.py. -/
import Derived.Test.YtmcdhpbkhchpeaaScope20
namespace Go.Proofs.Ytmcdhpbkhchpeaa
open Go.ChangeShapes Go.WideShapes Go.RowKit Words

theorem take_ok {l : List (BitVec 64)} {j : Nat} {a : BitVec 64} (h : ∀ v ∈ l.take j, v ≠ 0#64) (ha : l[j]? = some a) (hne : a ≠ 0#64) : ∀ v ∈ l.take (j + 1), v ≠ 0#64 := by
  intro v hv
  obtain ⟨hk, rfl⟩ := List.getElem?_eq_some_iff.1 ha
  rw [List.take_succ_eq_append_getElem hk, List.mem_append, List.mem_singleton] at hv
  rcases hv with hv | rfl
  · exact h v hv
  · exact hne

set_option linter.unusedSimpArgs false in
set_option maxRecDepth 100000 in
set_option maxHeartbeats 8000000 in
theorem rmove_any (As : Option Addr) (ns cs : Nat) (Ap : Option Addr) (np cp : Nat) (Ai : Option Addr) (ni ci : Nat) (S : List Sl) (P : List Sc) (I : List Int) (Ar : Option Addr) (m cr : Nat) (rs : List (BitVec 64)) (w : World) (h : LRd w As ns cs Ap np cp Ai ni ci S P I)
    (hs : ns ≤ 1000000) (hr : Reads w w.heap.size 1 Ar m cr (rs.flatMap wordCells)) :
    Calls Try.prog 32 #[locV As ns cs Ap np cp Ai ni ci, .slice Ar m cr] w (RetLR w (moveL ⟨S, P, I⟩ rs)) := by
  obtain ⟨hS, hP, hI⟩ := h.lens
  have hB : Below w.heap.size w ((w.alloc (.cells #[.slice As ns cs, .slice Ap np cp, .slice Ai ni ci] 26)).alloc (.cells #[.slice none 0 0, .slice none 0 0, .slice none 0 0] 26)) := keep_alloc (loc_alloc w _ _ _ _) _
  have B0 := (Blk.new w #[.slice As ns cs, .slice Ap np cp, .slice Ai ni ci] 26).alloc (.cells #[.slice none 0 0, .slice none 0 0, .slice none 0 0] 26)
  have R0 := Blk.newAt (w.alloc (.cells #[.slice As ns cs, .slice Ap np cp, .slice Ai ni ci] 26)) #[.slice none 0 0, .slice none 0 0, .slice none 0 0] 26 (w.heap.size + 1) (by simp)
  have hh := h.belowU hB
  have hrl := hr.length (fun _ => rfl) (by omega)
  have hrcap := hr.cap
  have hrle := hr.le
  unfold maxLen at hrcap
  have HS := Lib.hid hS
  have HHS := Lib.hid hs
  have HRL := Lib.hid hrl
  have HHW := Lib.hid h
  have hsz : ((w.alloc (.cells #[.slice As ns cs, .slice Ap np cp, .slice Ai ni ci] 26)).alloc (.cells #[.slice none 0 0, .slice none 0 0, .slice none 0 0] 26)).heap.size = w.heap.size + 2 := by simp
  have HSZ := Lib.hid hsz
  obtain ⟨vb, hvb⟩ : ∃ vb, validL S P I = vb := ⟨_, rfl⟩
  have HVB := Lib.hid hvb
  have b0 := B0.cell 0 _ rfl
  have b1 := B0.cell 1 _ rfl
  have b2 := B0.cell 2 _ rfl
  clear h hS hP hI hrl hsz hvb hs
  go_enter Try.func32, Try.ntmps32
  go_wp2_with fail
  refine (rvalid_any As ns cs Ap np cp Ai ni ci S P I _ hh).mono ?_
  rw [HVB.out]
  rintro e w1 ⟨rfl, hb1⟩
  have B1 := B0.below hb1
  have R1 := R0.below hb1
  have hh1 := hh.belowU hb1
  have hB1 := keep_below hb1 hB
  have hs1 : w.heap.size + 2 ≤ w1.heap.size := by have := HSZ.out; have := hb1.size; omega
  clear b0 b1 b2
  have b0 := B1.cell 0 _ rfl
  have b1 := B1.cell 1 _ rfl
  have b2 := B1.cell 2 _ rfl
  clear B0 R0 hh hb1 hB
  cases vb with
  | false =>
    have HRES := Lib.hid (moveL_no (x := ⟨S, P, I⟩) (rs := rs) (Or.inl HVB.out))
    clear B1 hh1
    have fr := R1.free
    have r0 := R1.cell 0 _ rfl
    have r1 := R1.cell 1 _ rfl
    have r2 := R1.cell 2 _ rfl
    have G := R1.put3 (.slice none 0 0) (.slice none 0 0) (.slice none 0 0)
    have g20 := G.cell 0 _ rfl
    have g21 := G.cell 1 _ rfl
    have g22 := G.cell 2 _ rfl
    clear G
    go_wp2_with fail
    refine bodyPost_ret (v := .tuple #[locV none 0 0 none 0 0 none 0 0, .int .i64 1]) (by simp [results, Try.results32, go_sem, g20, g21, g22]) rfl ?_
    rw [HRES.out]
    exact RetLR.fail hB1
  | true =>
  have hrefs : refsL ⟨S, P, I⟩ = liveRefs S := by unfold refsL; rw [if_pos (show Lc.valid ⟨S, P, I⟩ = true from HVB.out)]
  have HRF := Lib.hid hrefs
  clear hrefs
  go_wp2_with fail
  refine (rrefs_any As ns cs Ap np cp Ai ni ci S P I _ hh1 HHS.out).mono ?_
  rw [HRF.out]
  rintro e w2 ⟨Ax, cx, rfl, -, hb2⟩
  have B2 := B1.below hb2
  have R2 := R1.below hb2
  have hh2 := hh1.belowU hb2
  have hB2 := keep_below hb2 hB1
  have hs2 : w.heap.size + 2 ≤ w2.heap.size := Nat.le_trans hs1 hb2.size
  clear b0 b1 b2
  have b0 : (w2.alloc (.cells #[] 62)).cell? ⟨w.heap.size, 0, none⟩ = some (.slice As ns cs) := (B2.alloc _).cell 0 _ rfl
  clear B1 R1 hh1 hb2 hB1 hs1
  obtain ⟨lr, hlr⟩ : ∃ lr, (liveRefs S).length = lr := ⟨_, rfl⟩
  rw [hlr]
  have HLR := Lib.hid hlr
  clear hlr
  by_cases hm : lr = m
  · subst hm
    have hb0 : ((lr : Int) != (lr : Int)) = false := by simp
    have hvz : ∀ hz : 0#64 ∉ rs, moveL ⟨S, P, I⟩ rs = (⟨fill S rs, P, I⟩, 0) := fun hz => moveL_ok (x := ⟨S, P, I⟩) (rs := rs) (by rintro (h | h | h); rw [show Lc.valid ⟨S, P, I⟩ = true from HVB.out] at h; cases h; exact h (by rw [HLR.out, HRL.out]); exact hz h)
    have HVZ := Lib.hid hvz
    have own1 := own_lit0 w2 62 3 w2.heap.size w2.heap.size (Nat.le_refl _) rfl
    have rd1 := hh2.s.alloc (Nat.le_refl _) (.cells #[] 62)
    have q1 : 0 + ns ≤ maxLen := by have := HHS.out; unfold maxLen; omega
    have q2 : (0 + ns) * 24 ≤ 140737488355328 := by have := HHS.out; omega
    clear hvz
    go_upto_region 4 with (at_builtin; (refine wpList_appG rfl _ _ _ rfl tySl rfl own1 rfl rd1 (slCells_one S) q1 q2 (by simp) ?_; intro v4 w3 own4 hg4; rw [Nat.zero_add, List.nil_append] at own4; have hb3 : Below w2.heap.size w2 w3 := (keep_alloc (Below.refl _ _) _).trans (below_own own1 hg4 (Nat.le_refl _) (by simp)); obtain ⟨A1, c1, rfl, -⟩ := Reads.own own4; have B3 := B2.below hb3; have t3 := B3.cell 0 _ rfl; have f3 := B3.free))
    have T3 := B3.put0 (.slice A1 ns c1)
    have R3' := (R2.below hb3).far (p := ⟨w.heap.size, 0, none⟩) (by show w.heap.size + 1 ≠ w.heap.size; omega) (.slice A1 ns c1)
    have hown1 := ownsRow_setCell_below own4 (a := ⟨w.heap.size, 0, none⟩) (by show w.heap.size < _; omega) (.slice A1 ns c1)
    have hB3' := (keep_below hb3 hB2).setCell (p := ⟨w.heap.size, 0, none⟩) (by show w.heap.size ≤ w.heap.size; omega) (.slice A1 ns c1)
    have hsz3 : w2.heap.size ≤ (w3.setCell ⟨w.heap.size, 0, none⟩ (.slice A1 ns c1)).heap.size := by have := hb3.size; simp; omega
    obtain ⟨W3, hW3⟩ : ∃ W3, w3.setCell ⟨w.heap.size, 0, none⟩ (.slice A1 ns c1) = W3 := ⟨_, rfl⟩
    rw [hW3] at hown1 T3 R3' hB3' hsz3 ⊢
    clear hW3 t3 f3 B3 own4 hg4 hb3 own1 rd1 b0 B2 R2 hh2 hB2 q1 q2
    have hrW := hr.below hB3'
    have c0 := T3.cell 0 _ rfl
    go_wp2_with fail
    go_loopw [6, 7] (fun y x wq => ∃ (k j : Nat) (Q : List Sl), k ≤ ns ∧ x = .int .i64 k ∧ y = .int .i64 j ∧ Q.length = k ∧ j + (liveRefs (S.drop k)).length = lr ∧ (∀ v ∈ rs.take j, v ≠ 0#64) ∧
      wq.ownsRow w2.heap.size 62 3 (.slice A1 ns c1) ns ((Q ++ S.drop k).flatMap slCells) ∧ Below w2.heap.size W3 wq ∧ fill S rs = Q ++ fill (S.drop k) (rs.drop j)) (fun _ x _ => ns - (intOf x).toNat)
    case atStart => exact ⟨0, 0, [], Nat.zero_le _, rfl, rfl, rfl, by rw [List.drop_zero, HLR.out, Nat.zero_add], by simp, hown1, Below.refl _ _, rfl⟩
    case round =>
      obtain ⟨k, j, Q, hk, rfl, rfl, hQ, hj, hnz, hown2, hb4, hspec⟩ := hrel
      have hsz := hb4.size
      have hnn := HHS.out
      have hlt0 : w.heap.size < w2.heap.size := by omega
      have t0 : wr.cell? ⟨w.heap.size, 0, none⟩ = some (.slice A1 ns c1) := (hb4.cell (p := ⟨w.heap.size, 0, none⟩) hlt0).trans c0
      by_cases hlt : k < ns
      · rcases hown2.2 with ⟨-, hz⟩ | ⟨gb, cap, cu, hgb, hbg, -, -, -, -, -⟩
        · exfalso; omega
        simp only [Value.slice.injEq] at hgb
        obtain ⟨rfl, -, rfl⟩ := hgb
        obtain ⟨x, hx⟩ : ∃ x, S[k]? = some x := ⟨_, List.getElem?_eq_getElem (by rw [HS.out]; exact hlt)⟩
        have hdr := drop_at hx
        rw [hdr] at hj hown2 hspec
        have hmid := at_mid Q x (S.drop (k + 1)) k hQ
        have hcells : ∀ j u, (slCells x)[j]? = some u → j < 3 → wr.cell? ⟨gb, k * 3 + j, none⟩ = some u := fun j u hu hj =>
          (hown2.cellAt (k * 3 + j) (by omega)).trans (by rw [flat_at slCells 3 slCells_len _ k j hj x hmid, hu])
        have d1 := hcells 1 _ rfl (by omega)
        have d2 := hcells 2 _ rfl (by omega)
        have hk0 : (0 : Int) ≤ (k : Int) := by omega
        have hk1 : (k : Int) < (ns : Int) := by omega
        have HQ := Lib.hid hQ
        clear hcells hx hdr hQ
        obtain ⟨g, r, lv⟩ := x
        dsimp only at d1 d2
        cases lv
        · have hfs : fill S rs = (Q ++ [⟨g, r, false⟩]) ++ fill (S.drop (k + 1)) (rs.drop j) := by rw [hspec, fill, if_neg (by simp), List.append_assoc]; rfl
          have hll : j + (liveRefs (S.drop (k + 1))).length = lr := by rw [← hj]; unfold liveRefs; simp
          have happ : Q ++ (⟨g, r, false⟩ : Sl) :: S.drop (k + 1) = (Q ++ [⟨g, r, false⟩]) ++ S.drop (k + 1) := by rw [List.append_assoc]; rfl
          rw [happ] at hown2
          have HSP := Lib.hid hfs
          have HLL := Lib.hid hll
          have HNZ := Lib.hid hnz
          clear hspec hj hfs hll happ hmid hnz
          go_wp2_with fail
          go_roundw
          case rel => exact ⟨k + 1, j, Q ++ [⟨g, r, false⟩], by omega, by go_num, rfl, by rw [List.length_append, HQ.out]; rfl, HLL.out, HNZ.out, hown2, hb4, HSP.out⟩
          case measure => simp [intOf]; omega
        · have hj' : j + (liveRefs (S.drop (k + 1))).length + 1 = lr := by rw [← hj]; unfold liveRefs; simp; omega
          have hjm : j < lr := by omega
          obtain ⟨b2, off2, a, rfl, hbb2, ha', hca⟩ := (show Reads wr w.heap.size 1 Ar lr cr (rs.flatMap wordCells) from hrW.below (hb4.mono (by omega))).elem (fun _ => rfl) (by omega) hjm
          have e0 := hca 0 _ rfl
          rw [Nat.mul_one, Nat.add_zero] at e0
          have hj0 : (0 : Int) ≤ (j : Int) := by omega
          have hj1 : (j : Int) < (lr : Int) := by omega
          by_cases haz : a = 0#64
          · subst haz
            have hz0 : (U 0#64 == 0) = true := by decide
            have HRES := Lib.hid (moveL_no (x := ⟨S, P, I⟩) (rs := rs) (Or.inr (Or.inr (List.mem_of_getElem? ha'))))
            have R5 := R3'.belowB hb4 (by omega)
            have hB4 : Below w.heap.size w wr := hB3'.trans (hb4.mono (by omega))
            clear hspec hj hj' hmid hca ha' hnz hown2
            have fr := R5.free
            have r0 := R5.cell 0 _ rfl
            have r1 := R5.cell 1 _ rfl
            have r2 := R5.cell 2 _ rfl
            have G := R5.put3 (.slice none 0 0) (.slice none 0 0) (.slice none 0 0)
            have g20 := G.cell 0 _ rfl
            have g21 := G.cell 1 _ rfl
            have g22 := G.cell 2 _ rfl
            clear G
            go_wp2_with fail
            refine bodyPost_ret (v := .tuple #[locV none 0 0 none 0 0 none 0 0, .int .i64 1]) (by simp [results, Try.results32, go_sem, g20, g21, g22]) rfl ?_
            rw [HRES.out]
            exact RetLR.fail hB4
          · have hz0 : (U a == 0) = false := by have := U_eq a 0#64; rw [show U 0#64 = 0 by decide] at this; rw [this]; simp [haz]
            have hfs : fill S rs = (Q ++ [⟨g, a, true⟩]) ++ fill (S.drop (k + 1)) (rs.drop (j + 1)) := by rw [hspec, fill, if_pos rfl, List.append_assoc, drop_at ha']; rfl
            have hset := set_flatS slCells 3 slCells_len (Q ++ ⟨g, r, true⟩ :: S.drop (k + 1)) k 1 (.int .u64 (U a)) ⟨g, r, true⟩ ⟨g, a, true⟩ hmid (by omega) rfl
            rw [set_mid Q _ _ _ k HQ.out] at hset
            have hown3 := (hown2.stored (k * 3 + 1) (.int .u64 (U a))).1
            rw [hset] at hown3
            have f1 := hown2.frozenAt (k * 3 + 1)
            have HSP := Lib.hid hfs
            have hj2 : j + 1 + (liveRefs (S.drop (k + 1))).length = lr := by omega
            have HJ := Lib.hid hj2
            have HNZ := Lib.hid (take_ok hnz ha' haz)
            clear hspec hj hj' hfs hset hmid hca hj2 ha' hnz haz
            go_wp2_with fail
            go_region_law (fail)
            all_goals
              go_wp2_with fail
              go_roundw
              case rel => exact ⟨k + 1, j + 1, Q ++ [⟨g, a, true⟩], by omega, by go_num, by go_num, by rw [List.length_append, HQ.out]; rfl, HJ.out, HNZ.out, hown3.drew, (hb4.setCell (by show w2.heap.size ≤ gb; omega) _).drew, HSP.out⟩
              case measure => simp [intOf]; omega
      · have hkn : k = ns := by omega
        subst hkn
        have hdr := drop_end HS.out hlt
        rw [hdr] at hown2 hspec hj
        rw [fill, List.append_nil] at hspec
        rw [List.append_nil] at hown2
        have hjl : j = rs.length := by rw [HRL.out]; simpa [liveRefs] using hj
        have HRES := Lib.hid (HVZ.out (fun hm => by rw [hjl, List.take_length] at hnz; exact hnz _ hm rfl))
        have HSP := Lib.hid hspec
        have T5 := T3.belowB hb4 (by omega)
        have R5 := R3'.belowB hb4 (by omega)
        have hB4 : Below w.heap.size w wr := hB3'.trans (hb4.mono (by omega))
        have t1 := T5.cell 1 _ rfl
        have t2 := T5.cell 2 _ rfl
        have r0 := R5.cell 0 _ rfl
        have r1 := R5.cell 1 _ rfl
        have r2 := R5.cell 2 _ rfl
        have fr5 := R5.free
        have G := R5.put3 (.slice A1 k c1) (.slice Ap np cp) (.slice Ai ni ci)
        have g20 := G.cell 0 _ rfl
        have g21 := G.cell 1 _ rfl
        have g22 := G.cell 2 _ rfl
        rw [← HSP.out] at hown2
        have hBF := keep_set3 hB4 (.slice A1 k c1) (.slice Ap np cp) (.slice Ai ni ci)
        have HO := Lib.hid (LRd.mk (reads_own (own_put3 hown2 (g := w.heap.size + 1) (by omega) (.slice A1 k c1) (.slice Ap np cp) (.slice Ai ni ci))) ((HHW.out.p.below hBF).more hBF.size) ((HHW.out.i.below hBF).more hBF.size))
        have HBF := Lib.hid hBF
        clear hspec hdr hlt T3 G T5 R5 hown2 hB4 hBF hnz hj hjl
        go_wp2_with fail
        refine bodyPost_ret (v := .tuple #[locV A1 k c1 Ap np cp Ai ni ci, .int .i64 0]) (by simp [results, Try.results32, go_sem, g20, g21, g22]) rfl ?_
        exact RetLR.mk' HRES.out HO.out HBF.out
  · have HRES := Lib.hid (moveL_no (x := ⟨S, P, I⟩) (rs := rs) (Or.inr (Or.inl (by dsimp only; rw [HLR.out, HRL.out]; exact hm))))
    have hb0 : ((m : Int) != (lr : Int)) = true := by simp; omega
    clear B2 hh2 hm b0
    have fr := R2.free
    have r0 := R2.cell 0 _ rfl
    have r1 := R2.cell 1 _ rfl
    have r2 := R2.cell 2 _ rfl
    have G := R2.put3 (.slice none 0 0) (.slice none 0 0) (.slice none 0 0)
    have g20 := G.cell 0 _ rfl
    have g21 := G.cell 1 _ rfl
    have g22 := G.cell 2 _ rfl
    clear G
    go_wp2_with fail
    refine bodyPost_ret (v := .tuple #[locV none 0 0 none 0 0 none 0 0, .int .i64 1]) (by simp [results, Try.results32, go_sem, g20, g21, g22]) rfl ?_
    rw [HRES.out]
    exact RetLR.fail hB2
end Go.Proofs.Ytmcdhpbkhchpeaa

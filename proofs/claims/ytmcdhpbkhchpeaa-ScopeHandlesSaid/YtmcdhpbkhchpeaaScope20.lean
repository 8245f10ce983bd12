/- The contract of scope.Move. Printed by mk_scope20.py. -/
import Derived.Test.YtmcdhpbkhchpeaaScope19
import Derived.Test.YtmcdhpbkhchpeaaScopeRet
import Derived.Test.YtmcdhpbkhchpeaaScopeBox
import Derived.Deep.Cut
namespace Go.Proofs.Ytmcdhpbkhchpeaa
open Go.ChangeShapes Go.WideShapes Go.RowKit Words

set_option linter.unusedSimpArgs false in
set_option maxRecDepth 100000 in
set_option maxHeartbeats 8000000 in
theorem move_any (As : Option Addr) (ns cs : Nat) (Ap : Option Addr) (np cp : Nat) (Ai : Option Addr) (ni ci : Nat) (S : List Sl) (P : List Sc) (I : List Int) (Ar : Option Addr) (m cr : Nat) (rs : List (BitVec 64)) (w : World) (h : LRd w As ns cs Ap np cp Ai ni ci S P I)
    (hs : ns ≤ 1000000) (hp : np ≤ 1000000) (hi : ni ≤ 1000000) (hr : Reads w w.heap.size 1 Ar m cr (rs.flatMap wordCells)) :
    Calls Try.prog 31 #[locV As ns cs Ap np cp Ai ni ci, .slice Ar m cr] w (RetLR w (moveL ⟨S, P, I⟩ rs)) := by
  obtain ⟨hS, hP, hI⟩ := h.lens
  have hB : Below w.heap.size w ((w.alloc (.cells #[.slice As ns cs, .slice Ap np cp, .slice Ai ni ci] 26)).alloc (.cells #[.slice none 0 0, .slice none 0 0, .slice none 0 0] 26)) := keep_alloc (loc_alloc w _ _ _ _) _
  have B0 := (Blk.new w #[.slice As ns cs, .slice Ap np cp, .slice Ai ni ci] 26).alloc (.cells #[.slice none 0 0, .slice none 0 0, .slice none 0 0] 26)
  have R0 := Blk.newAt (w.alloc (.cells #[.slice As ns cs, .slice Ap np cp, .slice Ai ni ci] 26)) #[.slice none 0 0, .slice none 0 0, .slice none 0 0] 26 (w.heap.size + 1) (by simp)
  have hh := h.belowU hB
  have hrl := hr.length (fun _ => rfl) (by omega)
  have hrcap := hr.cap
  have hrle := hr.le
  unfold maxLen at hrcap
  have hr0 := (hr.below hB).more hB.size
  have HS := Lib.hid hS
  have HP := Lib.hid hP
  have HI := Lib.hid hI
  have HHS := Lib.hid hs
  have HHP := Lib.hid hp
  have HHI := Lib.hid hi
  have HRL := Lib.hid hrl
  have hsz : ((w.alloc (.cells #[.slice As ns cs, .slice Ap np cp, .slice Ai ni ci] 26)).alloc (.cells #[.slice none 0 0, .slice none 0 0, .slice none 0 0] 26)).heap.size = w.heap.size + 2 := by simp
  have HSZ := Lib.hid hsz
  obtain ⟨vb, hvb⟩ : ∃ vb, validL S P I = vb := ⟨_, rfl⟩
  have HVB := Lib.hid hvb
  have b0 := B0.cell 0 _ rfl
  have b1 := B0.cell 1 _ rfl
  have b2 := B0.cell 2 _ rfl
  have HHW := Lib.hid h
  clear h hS hP hI hrl hsz hvb hs hp hi
  go_enter Try.func31, Try.ntmps31
  go_wp2_with fail
  refine (valid_any As ns cs Ap np cp Ai ni ci S P I _ hh).mono ?_
  rw [HVB.out]
  rintro e w1 ⟨rfl, hb1⟩
  have B1 := B0.below hb1
  have R1 := R0.below hb1
  have hh1 := hh.belowU hb1
  have hr1 := hr0.belowU hb1
  have hB1 := keep_below hb1 hB
  have hs1 : w.heap.size + 2 ≤ w1.heap.size := by have := HSZ.out; have := hb1.size; omega
  clear b0 b1 b2
  have b0 := B1.cell 0 _ rfl
  have b1 := B1.cell 1 _ rfl
  have b2 := B1.cell 2 _ rfl
  clear B0 R0 hh hb1 hr0 hB
  cases vb with
  | false =>
    have HRES := Lib.hid (moveL_no (x := ⟨S, P, I⟩) (rs := rs) (Or.inl HVB.out))
    clear B1 hh1 hr1
    have fr := R1.free
    have r0 := R1.cell 0 _ rfl
    have r1 := R1.cell 1 _ rfl
    have r2 := R1.cell 2 _ rfl
    have G := R1.put3 (.slice none 0 0) (.slice none 0 0) (.slice none 0 0)
    have g20 := G.cell 0 _ rfl
    have g21 := G.cell 1 _ rfl
    have g22 := G.cell 2 _ rfl
    clear G
    go_wp2_with fail
    refine bodyPost_ret (v := .tuple #[locV none 0 0 none 0 0 none 0 0, .int .i64 1]) (by simp [results, Try.results31, go_sem, g20, g21, g22]) rfl ?_
    rw [HRES.out]
    exact RetLR.fail hB1
  | true =>
  have hrefs : refsL ⟨S, P, I⟩ = liveRefs S := by unfold refsL; rw [if_pos (show Lc.valid ⟨S, P, I⟩ = true from HVB.out)]
  have HRF := Lib.hid hrefs
  clear hrefs
  go_wp2_with fail
  refine (refs_any As ns cs Ap np cp Ai ni ci S P I _ hh1 HHS.out).mono ?_
  rw [HRF.out]
  rintro e w2 ⟨Ax, cx, rfl, -, hb2⟩
  have B2 := B1.below hb2
  have R2 := R1.below hb2
  have hh2 := hh1.belowU hb2
  have hr2 := hr1.belowU hb2
  have hB2 := keep_below hb2 hB1
  have hs2 : w.heap.size + 2 ≤ w2.heap.size := Nat.le_trans hs1 hb2.size
  clear b0 b1 b2
  have b0 := B2.cell 0 _ rfl
  have b1 := B2.cell 1 _ rfl
  have b2 := B2.cell 2 _ rfl
  clear B1 R1 hh1 hr1 hb2 hB1 hs1
  obtain ⟨lr, hlr⟩ : ∃ lr, (liveRefs S).length = lr := ⟨_, rfl⟩
  rw [hlr]
  have HLR := Lib.hid hlr
  clear hlr
  by_cases hm : lr = m
  · subst hm
    have hb0 : ((lr : Int) != (lr : Int)) = false := by simp
    go_wp2_with fail
    refine (contains_any Ar lr cr rs 0#64 _ hr2).mono ?_
    rintro e w2' ⟨rfl, rfl⟩
    obtain ⟨hz, hhz⟩ : ∃ hz, decide (0#64 ∈ rs) = hz := ⟨_, rfl⟩
    rw [hhz]
    cases hz with
    | true =>
      have HRES := Lib.hid (moveL_no (x := ⟨S, P, I⟩) (rs := rs) (Or.inr (Or.inr (of_decide_eq_true hhz))))
      clear B2 hh2 hr2 hhz
      have fr := R2.free
      have r0 := R2.cell 0 _ rfl
      have r1 := R2.cell 1 _ rfl
      have r2 := R2.cell 2 _ rfl
      have G := R2.put3 (.slice none 0 0) (.slice none 0 0) (.slice none 0 0)
      have g20 := G.cell 0 _ rfl
      have g21 := G.cell 1 _ rfl
      have g22 := G.cell 2 _ rfl
      clear G
      go_wp2_with fail
      refine bodyPost_ret (v := .tuple #[locV none 0 0 none 0 0 none 0 0, .int .i64 1]) (by simp [results, Try.results31, go_sem, g20, g21, g22]) rfl ?_
      rw [HRES.out]
      exact RetLR.fail hB2
    | false =>
      have hres := moveL_ok (x := ⟨S, P, I⟩) (rs := rs) (by rintro (h | h | h); rw [show Lc.valid ⟨S, P, I⟩ = true from HVB.out] at h; cases h; exact h (by rw [HLR.out, HRL.out]); exact of_decide_eq_false hhz h)
      dsimp only at hres
      have HRES := Lib.hid hres
      clear hhz hres
      go_wp2_with fail
      refine (clone_any As ns cs Ap np cp Ai ni ci S P I _ hh2 HHS.out HHP.out HHI.out).mono ?_
      rintro e w3 ⟨A1, c1, A2, c2, A3, c3, rfl, hown, hb3⟩
      have B3 := B2.below hb3
      have R3 := R2.below hb3
      have hB3 := keep_below hb3 hB2
      have hs3 := hb3.size
      clear b0 b1 b2
      have b0 := B3.cell 0 _ rfl
      have b1 := B3.cell 1 _ rfl
      have b2 := B3.cell 2 _ rfl
      have fq := B3.free
      have T3 := B3.put3 (.slice A1 ns c1) (.slice A2 np c2) (.slice A3 ni c3)
      have R3' := ((R3.far (p := ⟨w.heap.size, 0, none⟩) (by show w.heap.size + 1 ≠ w.heap.size; omega) (.slice A1 ns c1)).far (p := ⟨w.heap.size, 1, none⟩) (by show w.heap.size + 1 ≠ w.heap.size; omega) (.slice A2 np c2)).far (p := ⟨w.heap.size, 2, none⟩) (by show w.heap.size + 1 ≠ w.heap.size; omega) (.slice A3 ni c3)
      have hown1 := hown.far3 (g := w.heap.size) (by omega) (.slice A1 ns c1) (.slice A2 np c2) (.slice A3 ni c3)
      have hB3' := keep_put3 hB3 (Nat.le_refl w.heap.size) (.slice A1 ns c1) (.slice A2 np c2) (.slice A3 ni c3)
      go_upto_region 4 with fail
      obtain ⟨W3, hW3⟩ : ∃ W3, ((w3.setCell ⟨w.heap.size, 0, none⟩ (.slice A1 ns c1)).setCell ⟨w.heap.size, 1, none⟩ (.slice A2 np c2)).setCell ⟨w.heap.size, 2, none⟩ (.slice A3 ni c3) = W3 := ⟨_, rfl⟩
      have hsz3 : W3.heap.size = w3.heap.size := by rw [← hW3]; simp
      rw [hW3] at hown1 T3 R3' hB3' ⊢
      have hrW := hr.below hB3'
      have c0 := T3.cell 0 _ rfl
      clear hW3 fq hown B3 R3 B2 R2 hh2 hr2 hb3 hB2 hB3 b0 b1 b2
      have HOW := Lib.hid hown1
      have hownS := hown1.s
      clear hown1
      go_wp2_with fail
      go_loopw [1, 29] (fun rv x wq => ∃ (k : Nat) (Q : List Sl) (rs' : List (BitVec 64)) (A4 : Option Addr) (m4 c4 : Nat), k ≤ ns ∧ x = .int .i64 k ∧ rv = .slice A4 m4 c4 ∧ Q.length = k ∧ Reads wq w.heap.size 1 A4 m4 c4 (rs'.flatMap wordCells) ∧ (liveRefs (S.drop k)).length = m4 ∧ c4 ≤ 9223372036854775807 ∧
        wq.ownsRow w2.heap.size 62 3 (.slice A1 ns c1) ns ((Q ++ S.drop k).flatMap slCells) ∧ Below w2.heap.size W3 wq ∧ wq.ownsRow w2.heap.size 3 1 (.slice A3 ni c3) ni (I.flatMap intCells) ∧ wq.ownsRow w2.heap.size 59 3 (.slice A2 np c2) np (P.flatMap scCells) ∧ fill S rs = Q ++ fill (S.drop k) rs') (fun _ x _ => ns - (intOf x).toNat)
      case atStart => exact ⟨0, [], rs, Ar, lr, cr, Nat.zero_le _, rfl, rfl, rfl, hrW, HLR.out, hrcap, hownS, Below.refl _ _, HOW.out.i, HOW.out.p, rfl⟩
      case round =>
        obtain ⟨k, Q, rs', A4, m4, c4, hk, rfl, rfl, hQ, hr4, hm4, hc4, hown2, hb4, hoI, hoP, hspec⟩ := hrel
        have hsz := hb4.size
        have hnn := HHS.out
        have hlt0 : w.heap.size < w2.heap.size := by omega
        have t0 : wr.cell? ⟨w.heap.size, 0, none⟩ = some (.slice A1 ns c1) := (hb4.cell (p := ⟨w.heap.size, 0, none⟩) hlt0).trans c0
        by_cases hlt : k < ns
        · rcases hown2.2 with ⟨-, hz⟩ | ⟨gb, cap, cu, hgb, hbg, -, -, -, -, -⟩
          · exfalso; omega
          simp only [Value.slice.injEq] at hgb
          obtain ⟨rfl, -, rfl⟩ := hgb
          obtain ⟨x, hx⟩ : ∃ x, S[k]? = some x := ⟨_, List.getElem?_eq_getElem (by rw [HS.out]; exact hlt)⟩
          have hdr := drop_at hx
          rw [hdr] at hm4 hown2 hspec
          have hmid := at_mid Q x (S.drop (k + 1)) k hQ
          have hcells : ∀ j u, (slCells x)[j]? = some u → j < 3 → wr.cell? ⟨gb, k * 3 + j, none⟩ = some u := fun j u hu hj =>
            (hown2.cellAt (k * 3 + j) (by omega)).trans (by rw [flat_at slCells 3 slCells_len _ k j hj x hmid, hu])
          have d0 := hcells 0 _ rfl (by omega)
          have d1 := hcells 1 _ rfl (by omega)
          have d2 := hcells 2 _ rfl (by omega)
          rw [Nat.add_zero] at d0
          have hk0 : (0 : Int) ≤ (k : Int) := by omega
          have hk1 : (k : Int) < (ns : Int) := by omega
          have HQ := Lib.hid hQ
          have HX := Lib.hid hx
          clear hcells hx hdr hQ
          obtain ⟨g, r, lv⟩ := x
          dsimp only at d0 d1 d2
          cases lv
          · have hfs : fill S rs = (Q ++ [⟨g, r, false⟩]) ++ fill (S.drop (k + 1)) rs' := by rw [hspec, fill, if_neg (by simp), List.append_assoc]; rfl
            have hll : (liveRefs (S.drop (k + 1))).length = m4 := by rw [← hm4]; unfold liveRefs; simp
            have happ : Q ++ (⟨g, r, false⟩ : Sl) :: S.drop (k + 1) = (Q ++ [⟨g, r, false⟩]) ++ S.drop (k + 1) := by rw [List.append_assoc]; rfl
            rw [happ] at hown2
            have HSP := Lib.hid hfs
            have HLL := Lib.hid hll
            clear hspec hm4 hfs hll happ hmid
            go_wp2_with fail
            go_roundw
            case rel => exact ⟨k + 1, Q ++ [⟨g, r, false⟩], rs', A4, m4, c4, by omega, by go_num, rfl, by rw [List.length_append, HQ.out]; rfl, hr4.alloc (by omega) _, HLL.out, hc4, hown2.alloc _, hb4.alloc (by omega) _, hoI.alloc _, hoP.alloc _, HSP.out⟩
            case measure => simp [intOf]; omega
          · have hm4' : (liveRefs (S.drop (k + 1))).length + 1 = m4 := by rw [← hm4]; unfold liveRefs; simp
            have hrl2 := hr4.length (fun _ => rfl) (by omega)
            obtain ⟨a, rs2, rfl⟩ : ∃ a rs2, rs' = a :: rs2 := by
              cases rs' with
              | nil => simp at hrl2; omega
              | cons a r => exact ⟨_, _, rfl⟩
            obtain ⟨b2, off2, a', rfl, hbb2, ha', hca⟩ := hr4.elem (fun _ => rfl) (by omega) (k := 0) (show 0 < m4 by omega)
            simp only [List.getElem?_cons_zero, Option.some.injEq] at ha'
            subst ha'
            have e0 := hca 0 _ rfl
            simp only [Nat.zero_mul, Nat.add_zero] at e0
            have hle2 := hr4.le
            have hrt := hr4.tail1
            have hfs : fill S rs = (Q ++ [⟨g, a, true⟩]) ++ fill (S.drop (k + 1)) rs2 := by rw [hspec, fill, if_pos rfl, List.append_assoc]; rfl
            have hset := set_flatS slCells 3 slCells_len (Q ++ ⟨g, r, true⟩ :: S.drop (k + 1)) k 1 (.int .u64 (U a)) ⟨g, r, true⟩ ⟨g, a, true⟩ hmid (by omega) rfl
            rw [set_mid Q _ _ _ k HQ.out] at hset
            have hownA := hown2.alloc (.cells #[.int .i64 g, .int .u64 (U r), .bool true] 62)
            have hown3 := (hownA.stored (k * 3 + 1) (.int .u64 (U a))).1
            rw [hset] at hown3
            have hoI3 := own_store (hoI.alloc (.cells #[.int .i64 g, .int .u64 (U r), .bool true] 62)) hownA (by decide) (k * 3 + 1) (.int .u64 (U a))
            have hoP3 := own_store (hoP.alloc (.cells #[.int .i64 g, .int .u64 (U r), .bool true] 62)) hownA (by decide) (k * 3 + 1) (.int .u64 (U a))
            have f1 := hownA.frozenAt (k * 3 + 1)
            have HSP := Lib.hid hfs
            have hm21 : (liveRefs (S.drop (k + 1))).length = m4 - 1 := by omega
            have HM2 := Lib.hid hm21
            have hm1 : 1 ≤ m4 := by omega
            have hc1 : 1 ≤ c4 := by omega
            clear hspec hm4 hm4' hfs hset hmid hrl2 hca hm21 hoI hoP
            have hB0 := hb4.alloc (show w2.heap.size ≤ wr.heap.size by omega) (.cells #[.int .i64 g, .int .u64 (U r), .bool true] 62)
            have T1 : (wr.alloc (.cells #[.int .i64 g, .int .u64 (U r), .bool true] 62)).cell? ⟨w.heap.size, 0, none⟩ = some (.slice (some ⟨gb, 0, none⟩) ns c1) := (hB0.cell (p := ⟨w.heap.size, 0, none⟩) hlt0).trans c0
            have E1 : (wr.alloc (.cells #[.int .i64 g, .int .u64 (U r), .bool true] 62)).cell? ⟨b2, off2, none⟩ = some (.int .u64 (U a)) := (keep_cell (keep_alloc (Below.refl _ _) _) e0)
            have D1 : (wr.alloc (.cells #[.int .i64 g, .int .u64 (U r), .bool true] 62)).cell? ⟨gb, k * 3 + 1, none⟩ = some (.int .u64 (U r)) := (keep_cell (keep_alloc (Below.refl _ _) _) d1)
            have hrt' := hrt.alloc (by omega) (.cells #[.int .i64 g, .int .u64 (U r), .bool true] 62)
            have hszW : (wr.alloc (.cells #[.int .i64 g, .int .u64 (U r), .bool true] 62)).heap.size = wr.heap.size + 1 := by simp
            have hnz : (m4 : Int) = ((m4 - 1 : Nat) : Int) + 1 := by omega
            go_wp2_with fail
            obtain ⟨W4, hW4⟩ : ∃ W4, wr.alloc (.cells #[.int .i64 g, .int .u64 (U r), .bool true] 62) = W4 := ⟨_, rfl⟩
            rw [hW4] at hB0 T1 E1 D1 hrt' hszW hown3 hoI3 hoP3 f1 ⊢
            clear hW4 hown2 hownA t0 e0 d0 d1 d2 hrt hr4
            have HI3 := Lib.hid hoI3
            have HP3 := Lib.hid hoP3
            clear hoI3 hoP3
            by_cases hcc : c4 = 1
            · subst hcc
              obtain rfl : m4 = 1 := by omega
              clear hnz
              have hnil : rs2 = [] := List.eq_nil_of_length_eq_zero (by have := hrt'.length (fun _ => rfl) (by omega); omega)
              subst hnil
              have HRT := Lib.hid (Reads.empty0 (w := W4.setCell ⟨gb, k * 3 + 1, none⟩ (.int .u64 (U a))) (B := w.heap.size) (some ⟨b2, off2, none⟩))
              clear hrt'
              go_region_law (fail)
              all_goals
                go_wp2_with fail
                go_roundw
                case rel => exact ⟨k + 1, Q ++ [⟨g, a, true⟩], [], some ⟨b2, off2, none⟩, 0, 0, by omega, by go_num, rfl, by rw [List.length_append, HQ.out]; rfl, HRT.out.drew, HM2.out, by omega, hown3.drew, ((hB0.setCell (by show w2.heap.size ≤ gb; omega) _).drew), HI3.out.drew, HP3.out.drew, HSP.out⟩
                case measure => simp [intOf]; omega
            · have HRT := Lib.hid (hrt'.setCell (p := ⟨gb, k * 3 + 1, none⟩) (by show w.heap.size ≤ gb; omega) (.int .u64 (U a)))
              have hm0 : 0 < m4 := by omega
              have hm3 : (1 : Int) ≤ (m4 : Int) := by omega
              clear hrt' hnz
              go_region_law (fail)
              all_goals
                go_wp2_with fail
                go_roundw
                case rel => exact ⟨k + 1, Q ++ [⟨g, a, true⟩], rs2, some ⟨b2, off2 + 1, none⟩, m4 - 1, c4 - 1, by omega, by go_num, rfl, by rw [List.length_append, HQ.out]; rfl, HRT.out.drew, HM2.out, by omega, hown3.drew, ((hB0.setCell (by show w2.heap.size ≤ gb; omega) _).drew), HI3.out.drew, HP3.out.drew, HSP.out⟩
                case measure => simp [intOf]; omega
        · have hkn : k = ns := by omega
          subst hkn
          have hdr := drop_end HS.out hlt
          rw [hdr] at hown2 hspec
          rw [fill, List.append_nil] at hspec
          rw [List.append_nil] at hown2
          have HSP := Lib.hid hspec
          have T5 := T3.belowB hb4 (by omega)
          have R5 := R3'.belowB hb4 (by omega)
          have hB4 : Below w.heap.size w wr := hB3'.trans (hb4.mono (by omega))
          have t1 := T5.cell 1 _ rfl
          have t2 := T5.cell 2 _ rfl
          have r0 := R5.cell 0 _ rfl
          have r1 := R5.cell 1 _ rfl
          have r2 := R5.cell 2 _ rfl
          have fr5 := R5.free
          have G := R5.put3 (.slice A1 k c1) (.slice A2 np c2) (.slice A3 ni c3)
          have g20 := G.cell 0 _ rfl
          have g21 := G.cell 1 _ rfl
          have g22 := G.cell 2 _ rfl
          rw [← HSP.out] at hown2
          have HO := Lib.hid (LRd.mk (reads_own (own_put3 hown2 (g := w.heap.size + 1) (by omega) (.slice A1 k c1) (.slice A2 np c2) (.slice A3 ni c3))) (reads_own (own_put3 hoP (g := w.heap.size + 1) (by omega) (.slice A1 k c1) (.slice A2 np c2) (.slice A3 ni c3))) (reads_own (own_put3 hoI (g := w.heap.size + 1) (by omega) (.slice A1 k c1) (.slice A2 np c2) (.slice A3 ni c3))))
          have HBF := Lib.hid (keep_set3 hB4 (.slice A1 k c1) (.slice A2 np c2) (.slice A3 ni c3))
          clear hspec hdr hlt T3 G T5 R5 hown2 hoI hoP hB4
          go_wp2_with fail
          refine bodyPost_ret (v := .tuple #[locV A1 k c1 A2 np c2 A3 ni c3, .int .i64 0]) (by simp [results, Try.results31, go_sem, g20, g21, g22]) rfl ?_
          exact RetLR.mk' HRES.out HO.out HBF.out
  · have HRES := Lib.hid (moveL_no (x := ⟨S, P, I⟩) (rs := rs) (Or.inr (Or.inl (by dsimp only; rw [HLR.out, HRL.out]; exact hm))))
    have hb0 : ((lr : Int) != (m : Int)) = true := by simp; omega
    clear B2 hh2 hr2 hm
    have fr := R2.free
    have r0 := R2.cell 0 _ rfl
    have r1 := R2.cell 1 _ rfl
    have r2 := R2.cell 2 _ rfl
    have G := R2.put3 (.slice none 0 0) (.slice none 0 0) (.slice none 0 0)
    have g20 := G.cell 0 _ rfl
    have g21 := G.cell 1 _ rfl
    have g22 := G.cell 2 _ rfl
    clear G
    go_wp2_with fail
    refine bodyPost_ret (v := .tuple #[locV none 0 0 none 0 0 none 0 0, .int .i64 1]) (by simp [results, Try.results31, go_sem, g20, g21, g22]) rfl ?_
    rw [HRES.out]
    exact RetLR.fail hB2
end Go.Proofs.Ytmcdhpbkhchpeaa

/- The contract of the reference of Move. -/
import Derived.Test.YtfcghhpbjnlldaaSlots13
import Derived.Test.YtfcghhpbjnlldaaSlots10
namespace Go.Proofs.Ytfcghhpbjnlldaa
open Go.RowKit Words

set_option maxHeartbeats 1000000 in
theorem rmove_any (A : Option Addr) (n c : Nat) (l : List Ent) (Ar : Option Addr) (m cr : Nat) (rs : List (BitVec 64)) (w : World) (h : Reads w w.heap.size 3 A n c (l.flatMap entCells)) (hn : n ≤ 1000000)
    (hr : Reads w w.heap.size 1 Ar m cr (rs.flatMap wordCells)) :
    Calls Try.prog 24 #[tabV A n c, .slice Ar m cr] w (RetTE w (moveW l rs)) := by
  have hlen := h.length entCells_len (by omega)
  have hrl := hr.length (fun _ => rfl) (by omega)
  have hrcap := hr.cap
  have hrle := hr.le
  unfold maxLen at hrcap
  have hW : Below w.heap.size w ((w.alloc (.cells #[.slice A n c] 24)).alloc (.cells #[.slice none 0 0] 24)) := keep_alloc (tab_alloc w A n c) _
  have B0 := (Blk.new w #[.slice A n c] 24).alloc (.cells #[.slice none 0 0] 24)
  have R0 := Blk.newAt (w.alloc (.cells #[.slice A n c] 24)) #[.slice none 0 0] 24 (w.heap.size + 1) (by simp)
  have ha := (h.below hW).more (B' := ((w.alloc (.cells #[.slice A n c] 24)).alloc (.cells #[.slice none 0 0] 24)).heap.size) (by simp; omega)
  have HN := Lib.hid hn
  clear hn
  by_cases hv : validT l = true
  · have HV := Lib.hid hv
    have hrefs : refsW l = liveRefs l := by unfold refsW; rw [if_pos hv]
    have HR := Lib.hid hrefs
    have hll := liveRefs_le l
    by_cases hm : (liveRefs l).length = m
    · have hres : moveW l rs = (fill l rs, 0) := by unfold moveW; rw [if_pos ⟨hv, by rw [hrl, hm]⟩]
      rw [hres]
      have hfl : (fill l rs).length = n := by rw [fill_len, hlen]
      have HF := Lib.hid hfl
      have HM := Lib.hid hm
      have HLEN := Lib.hid hlen
      have HRL := Lib.hid hrl
      have hb0 : ((m : Int) != (m : Int)) = false := by simp
      have hone := entCells_one l
      clear hv hrefs hres hfl hm hlen hrl hll
      go_enter Try.func24, Try.ntmps24
      go_wp2_with fail
      refine (rvalid_any _ _ _ _ _ ha).mono ?_
      rintro e w1 ⟨rfl, hb1⟩
      rw [HV.out]
      have B1 := B0.below hb1
      have R1 := R0.below hb1
      have hs1 := hb1.size
      simp at hs1
      have q0 : w1.cell? ⟨w.heap.size, 0, none⟩ = some (.slice A n c) := B1.cell 0 _ rfl
      have hB1 : Below w.heap.size w w1 := hW.trans (hb1.mono (by simp; omega))
      go_wp2_with fail
      refine (rrefs_any _ _ _ _ _ (ha.belowU hb1) HN.out).mono ?_
      rw [HR.out]
      rintro e w2 ⟨Ax, cx, rfl, -, hb2⟩
      rw [HM.out]
      have B2 := B1.below hb2
      have R2 := R1.below hb2
      have hs2 := hb2.size
      have q1 : w2.cell? ⟨w.heap.size, 0, none⟩ = some (.slice A n c) := B2.cell 0 _ rfl
      have q1a : (w2.alloc (.cells #[] 30)).cell? ⟨w.heap.size, 0, none⟩ = some (.slice A n c) := (B2.alloc _).cell 0 _ rfl
      have hB2 : Below w.heap.size w w2 := keep_below hb2 hB1
      have hr2 := (ha.belowU hb1).belowU hb2
      have hown0 := World.ownsRow_lit (e := 30) (size := 3) (base := w2.heap.size) w2 #[] 0 (Nat.le_refl _) (by decide) rfl
      go_wp2_with (at_builtin; refine wpList_app rfl _ _ _ rfl tyEnts rfl hown0 rfl (hr2.alloc (Nat.le_refl _) _) hone (by have := HN.out; unfold maxLen; omega) (by have := HN.out; omega) (by simp) ?_; intro v' w3 hown hb3a)
      rw [Nat.zero_add, List.nil_append] at hown
      have hb3 : Below w2.heap.size w2 w3 := (keep_alloc (Below.refl _ _) _).trans hb3a
      obtain ⟨A', c', rfl, -⟩ := Reads.own hown
      have R3 := R2.below hb3
      have hs3 := hb3.size
      have hB3 : Below w.heap.size w w3 := keep_below hb3 hB2
      have hrW := hr.below hB3
      clear hown0 hb3a
      go_loopw [7, 8] (fun y x wq => ∃ (k j : Nat) (P : List Ent), k ≤ n ∧ x = .int .i64 k ∧ y = .int .i64 j ∧ P.length = k ∧ j + (liveRefs (l.drop k)).length = m ∧
        wq.ownsRow w2.heap.size 30 3 (.slice A' n c') n ((P ++ l.drop k).flatMap entCells) ∧ Below w2.heap.size w3 wq ∧ fill l rs = P ++ fill (l.drop k) (rs.drop j)) (fun _ x _ => n - (intOf x).toNat)
      case atStart => exact ⟨0, 0, [], Nat.zero_le _, rfl, rfl, rfl, by rw [List.drop_zero, HM.out, Nat.zero_add], hown, Below.refl _ _, rfl⟩
      case round =>
        obtain ⟨k, j, P, hk, rfl, rfl, hP, hj, hown2, hb4, hspec⟩ := hrel
        have hsz := hb4.size
        have hnn := HN.out
        by_cases hlt : k < n
        · rcases hown2.2 with ⟨-, hz⟩ | ⟨gb, cap, cu, hgb, hbg, -, -, -, -, -⟩
          · exfalso; omega
          simp only [Value.slice.injEq] at hgb
          obtain ⟨rfl, -, rfl⟩ := hgb
          obtain ⟨x, hx⟩ : ∃ x, l[k]? = some x := ⟨_, List.getElem?_eq_getElem (by rw [HLEN.out]; exact hlt)⟩
          have hdr := drop_at hx
          rw [hdr] at hj hown2 hspec
          have hmid := at_mid P x (l.drop (k + 1)) k hP
          have hcells : ∀ j u, (entCells x)[j]? = some u → j < 3 → wr.cell? ⟨gb, k * 3 + j, none⟩ = some u := fun j u hu hj =>
            (hown2.cellAt (k * 3 + j) (by omega)).trans (by rw [flat_at entCells 3 entCells_len _ k j hj x hmid, hu])
          have d1 := hcells 1 _ rfl (by omega)
          have d2 := hcells 2 _ rfl (by omega)
          have hk0 : (0 : Int) ≤ (k : Int) := by omega
          have hk1 : (k : Int) < (n : Int) := by omega
          have HP := Lib.hid hP
          clear hcells hx hdr hP
          obtain ⟨g, r, lv⟩ := x
          dsimp only at d1 d2
          cases lv
          · have hfs : fill l rs = (P ++ [⟨g, r, false⟩]) ++ fill (l.drop (k + 1)) (rs.drop j) := by rw [hspec, fill, if_neg (by simp), List.append_assoc]; rfl
            rw [liveRefs, if_neg (by simp)] at hj
            have happ : P ++ (⟨g, r, false⟩ : Ent) :: l.drop (k + 1) = (P ++ [⟨g, r, false⟩]) ++ l.drop (k + 1) := by rw [List.append_assoc]; rfl
            rw [happ] at hown2
            have HS := Lib.hid hfs
            have HJ := Lib.hid hj
            clear hspec hfs happ hmid hj
            go_wp2_with fail
            go_roundw
            case rel => exact ⟨k + 1, j, P ++ [⟨g, r, false⟩], by omega, by go_num, rfl, by rw [List.length_append, HP.out]; rfl, HJ.out, hown2, hb4, HS.out⟩
            case measure => simp [intOf]; omega
          · rw [liveRefs, if_pos rfl, List.length_cons] at hj
            have hjm : j < m := by omega
            obtain ⟨b2, off2, a, rfl, hbb2, ha', hca⟩ := (hrW.below (hb4.mono (by omega))).elem (fun _ => rfl) (by omega) hjm
            have e0 := hca 0 _ rfl
            rw [Nat.mul_one, Nat.add_zero] at e0
            have hfs : fill l rs = (P ++ [⟨g, a, true⟩]) ++ fill (l.drop (k + 1)) (rs.drop (j + 1)) := by rw [hspec, fill, if_pos rfl, List.append_assoc, drop_at ha']; rfl
            have hset := set_flat entCells 3 entCells_len (P ++ ⟨g, r, true⟩ :: l.drop (k + 1)) k 1 (.int .u64 (U a)) ⟨g, r, true⟩ ⟨g, a, true⟩ hmid (by omega) rfl
            rw [set_mid P _ _ _ k HP.out] at hset
            have hown3 := (hown2.stored (k * 3 + 1) (.int .u64 (U a))).1
            rw [hset] at hown3
            have f1 := hown2.frozenAt (k * 3 + 1)
            have HS := Lib.hid hfs
            have hj2 : j + 1 + (liveRefs (l.drop (k + 1))).length = m := by omega
            have HJ := Lib.hid hj2
            have hj0 : (0 : Int) ≤ (j : Int) := by omega
            have hj1 : (j : Int) < (m : Int) := by omega
            clear hspec hj hfs hset hmid hca hj2 ha'
            go_wp2_with fail
            go_roundw
            case rel => exact ⟨k + 1, j + 1, P ++ [⟨g, a, true⟩], by omega, by go_num, by go_num, by rw [List.length_append, HP.out]; rfl, HJ.out, hown3, hb4.setCell (by show w2.heap.size ≤ gb; omega) _, HS.out⟩
            case measure => simp [intOf]; omega
        · have hkn : k = n := by omega
          subst hkn
          have hdr := drop_end HLEN.out hlt
          rw [hdr] at hown2 hspec
          rw [fill, List.append_nil] at hspec
          rw [List.append_nil] at hown2
          have HS := Lib.hid hspec
          have R5 := R3.belowB hb4 (by omega)
          have r5 : wr.cell? ⟨w.heap.size + 1, 0, none⟩ = some (.slice none 0 0) := R5.cell 0 _ rfl
          have fr5 := R5.free
          have hB4 : Below w.heap.size w wr := hB3.trans (hb4.mono (by omega))
          clear hspec hdr hlt
          go_wp2_with fail
          refine bodyPost_ret (v := .tuple #[tabV A' k c', .int .i64 0]) (by simp [results, Try.results24, go_sem, r5]) rfl ?_
          have hown6 := ownsRow_setCell_below hown2 (a := ⟨w.heap.size + 1, 0, none⟩) (by show w.heap.size + 1 < _; omega) (.slice A' k c')
          rw [← HS.out] at hown6
          obtain ⟨A3, c3, e3, hr3⟩ := Reads.own hown6
          injection e3 with x1 x2 x3
          subst x1 x3
          refine ⟨_, _, by rw [HF.out], by rw [HF.out]; exact hr3, ?_⟩
          exact hB4.setCell (by simp) _
    · have hres : moveW l rs = ([], 1) := by unfold moveW; rw [if_neg (fun h => hm (by rw [h.2, hrl]))]
      rw [hres]
      have hb0 : ((m : Int) != ((liveRefs l).length : Int)) = true := by simp; omega
      clear hv hrefs hres hm hlen hrl hll
      go_enter Try.func24, Try.ntmps24
      go_wp2_with fail
      refine (rvalid_any _ _ _ _ _ ha).mono ?_
      rintro e w1 ⟨rfl, hb1⟩
      rw [HV.out]
      have B1 := B0.below hb1
      have R1 := R0.below hb1
      have hs1 := hb1.size
      simp at hs1
      have q0 : w1.cell? ⟨w.heap.size, 0, none⟩ = some (.slice A n c) := B1.cell 0 _ rfl
      have hB1 : Below w.heap.size w w1 := hW.trans (hb1.mono (by simp; omega))
      go_wp2_with fail
      refine (rrefs_any _ _ _ _ _ (ha.belowU hb1) HN.out).mono ?_
      rw [HR.out]
      rintro e w2 ⟨Ax, cx, rfl, -, hb2⟩
      have R2 := R1.below hb2
      have r2 : w2.cell? ⟨w.heap.size + 1, 0, none⟩ = some (.slice none 0 0) := R2.cell 0 _ rfl
      have fr2 := R2.free
      have hB2 : Below w.heap.size w w2 := keep_below hb2 hB1
      go_wp2_with fail
      refine bodyPost_ret (v := .tuple #[tabV none 0 0, .int .i64 1]) (by simp [results, Try.results24, go_sem, r2]) rfl ?_
      exact ⟨none, 0, rfl, Reads.nil, hB2.setCell (by simp) _⟩
  · have hres : moveW l rs = ([], 1) := by unfold moveW; rw [if_neg (fun h => hv h.1)]
    rw [hres]
    simp only [Bool.not_eq_true] at hv
    have HV := Lib.hid hv
    clear hv hlen hres hrl
    go_enter Try.func24, Try.ntmps24
    go_wp2_with fail
    refine (rvalid_any _ _ _ _ _ ha).mono ?_
    rintro e w1 ⟨rfl, hb1'⟩
    rw [HV.out]
    have R1 := R0.below hb1'
    have hs1 := hb1'.size
    simp at hs1
    have r0 : w1.cell? ⟨w.heap.size + 1, 0, none⟩ = some (.slice none 0 0) := R1.cell 0 _ rfl
    have fr := R1.free
    have hB1 : Below w.heap.size w w1 := hW.trans (hb1'.mono (by simp; omega))
    go_wp2_with fail
    refine bodyPost_ret (v := .tuple #[tabV none 0 0, .int .i64 1]) (by simp [results, Try.results24, go_sem, r0]) rfl ?_
    exact ⟨none, 0, rfl, Reads.nil, hB1.setCell (by simp) _⟩
end Go.Proofs.Ytfcghhpbjnlldaa

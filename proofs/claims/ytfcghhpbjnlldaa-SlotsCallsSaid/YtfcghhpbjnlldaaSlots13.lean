/- The contract of slots.Move. -/
import Derived.Test.YtfcghhpbjnlldaaSlots9
import Derived.Deep.RegionLaw
namespace Go.Proofs.Ytfcghhpbjnlldaa
open Go.RowKit Words

/-- the references of the handles that live, changed -/
def fill : List Ent → List (BitVec 64) → List Ent
  | [], _ => []
  | x :: r, rs => if x.live = true then ⟨x.gen, rs.headD 0#64, true⟩ :: fill r rs.tail else x :: fill r rs
theorem fill_len (l : List Ent) (rs : List (BitVec 64)) : (fill l rs).length = l.length := by
  induction l generalizing rs with
  | nil => rfl
  | cons x r ih =>
    rw [fill]
    split
    · rw [List.length_cons, ih, List.length_cons]
    · rw [List.length_cons, ih, List.length_cons]
def moveW (l : List Ent) (rs : List (BitVec 64)) : List Ent × Int := if validT l = true ∧ (liveRefs l).length = rs.length then (fill l rs, 0) else ([], 1)
theorem set_mid (P : List Ent) (x y : Ent) (r : List Ent) (k : Nat) (hk : P.length = k) : (P ++ x :: r).set k y = (P ++ [y]) ++ r := by
  subst hk
  rw [List.set_append_right _ _ (Nat.le_refl _), Nat.sub_self, List.set_cons_zero, List.append_assoc]
  rfl
theorem at_mid (P : List Ent) (x : Ent) (r : List Ent) (k : Nat) (hk : P.length = k) : (P ++ x :: r)[k]? = some x := by
  subst hk
  rw [List.getElem?_append_right (Nat.le_refl _), Nat.sub_self]
  rfl
theorem Reads.empty0 {w : World} {B : Nat} (A : Option Addr) : Reads w B 1 A 0 0 (([] : List (BitVec 64)).flatMap wordCells) := ⟨rfl, Nat.le_refl _, Nat.zero_le _, fun _ => rfl, fun h => absurd h (by omega)⟩
/-- the rest of a slice of words -/
theorem Reads.tail1 {w : World} {B n c b off : Nat} {a : BitVec 64} {r : List (BitVec 64)} (h : Reads w B 1 (some ⟨b, off, none⟩) n c ((a :: r).flatMap wordCells)) :
    Reads w B 1 (some ⟨b, off + 1, none⟩) (n - 1) (c - 1) (r.flatMap wordCells) := by
  have hl := h.length (fun _ => rfl) (by omega)
  rw [List.length_cons] at hl
  have hle := h.le
  have hcap := h.cap
  refine ⟨by rw [flat_len wordCells 1 (fun _ => rfl)]; omega, by omega, by omega, (fun h => by cases h), fun hn => ?_⟩
  obtain ⟨b', off', he, hb, hc⟩ := h.at_ (by omega)
  simp only [Option.some.injEq, Addr.mk.injEq, and_true] at he
  obtain ⟨rfl, rfl⟩ := he
  refine ⟨b, off + 1, rfl, hb, fun j u hu => ?_⟩
  have := hc (j + 1) u (by rw [List.flatMap_cons]; simpa [wordCells] using hu)
  rw [show off + 1 + j = off + (j + 1) by omega]
  exact this

set_option maxHeartbeats 2000000 in
theorem move_any (A : Option Addr) (n c : Nat) (l : List Ent) (Ar : Option Addr) (m cr : Nat) (rs : List (BitVec 64)) (w : World) (h : Reads w w.heap.size 3 A n c (l.flatMap entCells)) (hn : n ≤ 1000000)
    (hr : Reads w w.heap.size 1 Ar m cr (rs.flatMap wordCells)) :
    Calls Try.prog 23 #[tabV A n c, .slice Ar m cr] w (RetTE w (moveW l rs)) := by
  have hlen := h.length entCells_len (by omega)
  have hrl := hr.length (fun _ => rfl) (by omega)
  have hrcap := hr.cap
  have hrle := hr.le
  unfold maxLen at hrcap
  have hW : Below w.heap.size w ((w.alloc (.cells #[.slice A n c] 24)).alloc (.cells #[.slice none 0 0] 24)) := keep_alloc (tab_alloc w A n c) _
  have B0 := (Blk.new w #[.slice A n c] 24).alloc (.cells #[.slice none 0 0] 24)
  have R0 := Blk.newAt (w.alloc (.cells #[.slice A n c] 24)) #[.slice none 0 0] 24 (w.heap.size + 1) (by simp)
  have ha := (h.below hW).more (B' := ((w.alloc (.cells #[.slice A n c] 24)).alloc (.cells #[.slice none 0 0] 24)).heap.size) (by simp; omega)
  have HN := Lib.hid hn
  clear hn
  by_cases hv : validT l = true
  · have HV := Lib.hid hv
    have hrefs : refsW l = liveRefs l := by unfold refsW; rw [if_pos hv]
    have HR := Lib.hid hrefs
    have hll := liveRefs_le l
    by_cases hm : (liveRefs l).length = m
    · have hres : moveW l rs = (fill l rs, 0) := by unfold moveW; rw [if_pos ⟨hv, by rw [hrl, hm]⟩]
      rw [hres]
      have hfl : (fill l rs).length = n := by rw [fill_len, hlen]
      have HF := Lib.hid hfl
      have HM := Lib.hid hm
      have HLEN := Lib.hid hlen
      have HRL := Lib.hid hrl
      have hb0 : ((m : Int) != (m : Int)) = false := by simp
      clear hv hrefs hres hfl hm hlen hrl hll
      go_enter Try.func23, Try.ntmps23
      go_wp2_with fail
      refine (valid_any _ _ _ _ _ ha).mono ?_
      rintro e w1 ⟨rfl, hb1⟩
      rw [HV.out]
      have B1 := B0.below hb1
      have R1 := R0.below hb1
      have hs1 := hb1.size
      simp at hs1
      have q0 : w1.cell? ⟨w.heap.size, 0, none⟩ = some (.slice A n c) := B1.cell 0 _ rfl
      have hB1 : Below w.heap.size w w1 := hW.trans (hb1.mono (by simp; omega))
      go_wp2_with fail
      refine (refs_any _ _ _ _ _ (ha.belowU hb1) HN.out).mono ?_
      rw [HR.out]
      rintro e w2 ⟨Ax, cx, rfl, -, hb2⟩
      rw [HM.out]
      have B2 := B1.below hb2
      have R2 := R1.below hb2
      have hs2 := hb2.size
      have q1 : w2.cell? ⟨w.heap.size, 0, none⟩ = some (.slice A n c) := B2.cell 0 _ rfl
      have hB2 : Below w.heap.size w w2 := keep_below hb2 hB1
      go_wp2_with fail
      refine (tabclone_any A n c l _ ((ha.belowU hb1).belowU hb2) HN.out).mono ?_
      rintro e w3 ⟨A', c', rfl, hown, hb3⟩
      have B3 := B2.below hb3
      have R3 := R2.below hb3
      have hs3 := hb3.size
      have q2 : w3.cell? ⟨w.heap.size, 0, none⟩ = some (.slice A n c) := B3.cell 0 _ rfl
      have fq := B3.free
      have hB3 : Below w.heap.size w w3 := keep_below hb3 hB2
      have hown1 := ownsRow_setCell_below hown (a := ⟨w.heap.size, 0, none⟩) (by show w.heap.size < _; omega) (.slice A' n c')
      have T3 := B3.set 0 (.slice A' n c')
      have R3' := R3.far (p := ⟨w.heap.size, 0, none⟩) (by show w.heap.size + 1 ≠ w.heap.size; omega) (.slice A' n c')
      have hB3' := hB3.setCell (p := ⟨w.heap.size, 0, none⟩) (by show w.heap.size ≤ w.heap.size; omega) (.slice A' n c')
      have c0 : (w3.setCell ⟨w.heap.size, 0, none⟩ (.slice A' n c')).cell? ⟨w.heap.size, 0, none⟩ = some (.slice A' n c') := T3.cell 0 _ rfl
      have hsz3 : (w3.setCell ⟨w.heap.size, 0, none⟩ (.slice A' n c')).heap.size = w3.heap.size := by simp
      go_wp2_with fail
      obtain ⟨W3, hW3⟩ : ∃ W3, w3.setCell ⟨w.heap.size, 0, none⟩ (.slice A' n c') = W3 := ⟨_, rfl⟩
      rw [hW3] at hown1 T3 R3' hB3' c0 hsz3 ⊢
      have hrW := hr.below hB3'
      clear hW3 q0 q1 q2 fq hown B3 R3 B0 B1 B2 R0 R1 R2
      go_loopw [1, 25] (fun rv x wq => ∃ (k : Nat) (P : List Ent) (rs' : List (BitVec 64)) (A2 : Option Addr) (m2 c2 : Nat), k ≤ n ∧ x = .int .i64 k ∧ rv = .slice A2 m2 c2 ∧ P.length = k ∧ Reads wq w.heap.size 1 A2 m2 c2 (rs'.flatMap wordCells) ∧ (liveRefs (l.drop k)).length = m2 ∧ c2 ≤ 9223372036854775807 ∧
        wq.ownsRow w2.heap.size 30 3 (.slice A' n c') n ((P ++ l.drop k).flatMap entCells) ∧ Below w2.heap.size W3 wq ∧ fill l rs = P ++ fill (l.drop k) rs') (fun _ x _ => n - (intOf x).toNat)
      case atStart => exact ⟨0, [], rs, Ar, m, cr, Nat.zero_le _, rfl, rfl, rfl, hrW, HM.out, hrcap, hown1, Below.refl _ _, rfl⟩
      case round =>
        obtain ⟨k, P, rs', A2, m2, c2, hk, rfl, rfl, hP, hr2, hm2, hc2, hown2, hb4, hspec⟩ := hrel
        have hsz := hb4.size
        have hnn := HN.out
        have hlt0 : w.heap.size < w2.heap.size := by omega
        have t0 : wr.cell? ⟨w.heap.size, 0, none⟩ = some (.slice A' n c') := (hb4.cell (p := ⟨w.heap.size, 0, none⟩) hlt0).trans c0
        by_cases hlt : k < n
        · rcases hown2.2 with ⟨-, hz⟩ | ⟨gb, cap, cu, hgb, hbg, -, -, -, -, -⟩
          · exfalso; omega
          simp only [Value.slice.injEq] at hgb
          obtain ⟨rfl, -, rfl⟩ := hgb
          obtain ⟨x, hx⟩ : ∃ x, l[k]? = some x := ⟨_, List.getElem?_eq_getElem (by rw [HLEN.out]; exact hlt)⟩
          have hdr := drop_at hx
          rw [hdr] at hm2 hown2 hspec
          have hmid := at_mid P x (l.drop (k + 1)) k hP
          have hcells : ∀ j u, (entCells x)[j]? = some u → j < 3 → wr.cell? ⟨gb, k * 3 + j, none⟩ = some u := fun j u hu hj =>
            (hown2.cellAt (k * 3 + j) (by omega)).trans (by rw [flat_at entCells 3 entCells_len _ k j hj x hmid, hu])
          have d0 := hcells 0 _ rfl (by omega)
          have d1 := hcells 1 _ rfl (by omega)
          have d2 := hcells 2 _ rfl (by omega)
          rw [Nat.add_zero] at d0
          have hk0 : (0 : Int) ≤ (k : Int) := by omega
          have hk1 : (k : Int) < (n : Int) := by omega
          have HP := Lib.hid hP
          have HX := Lib.hid hx
          clear hcells hx hdr hP
          obtain ⟨g, r, lv⟩ := x
          dsimp only at d0 d1 d2
          cases lv
          · have hfs : fill l rs = (P ++ [⟨g, r, false⟩]) ++ fill (l.drop (k + 1)) rs' := by rw [hspec, fill, if_neg (by simp), List.append_assoc]; rfl
            have hll : (liveRefs (l.drop (k + 1))).length = m2 := by rw [← hm2, liveRefs, if_neg (by simp)]
            have happ : P ++ (⟨g, r, false⟩ : Ent) :: l.drop (k + 1) = (P ++ [⟨g, r, false⟩]) ++ l.drop (k + 1) := by rw [List.append_assoc]; rfl
            rw [happ] at hown2
            have HS := Lib.hid hfs
            have HLL := Lib.hid hll
            clear hspec hm2 hfs hll happ hmid
            go_wp2_with fail
            go_roundw
            case rel => exact ⟨k + 1, P ++ [⟨g, r, false⟩], rs', A2, m2, c2, by omega, by go_num, rfl, by rw [List.length_append, HP.out]; rfl, hr2.alloc (by omega) _, HLL.out, hc2, hown2.alloc _, hb4.alloc (by omega) _, HS.out⟩
            case measure => simp [intOf]; omega
          · rw [liveRefs, if_pos rfl, List.length_cons] at hm2
            have hrl2 := hr2.length (fun _ => rfl) (by omega)
            obtain ⟨a, rs2, rfl⟩ : ∃ a rs2, rs' = a :: rs2 := by
              cases rs' with
              | nil => simp at hrl2; omega
              | cons a r => exact ⟨_, _, rfl⟩
            obtain ⟨b2, off2, a', rfl, hbb2, ha', hca⟩ := hr2.elem (fun _ => rfl) (by omega) (k := 0) (show 0 < m2 by omega)
            simp only [List.getElem?_cons_zero, Option.some.injEq] at ha'
            subst ha'
            have e0 := hca 0 _ rfl
            simp only [Nat.zero_mul, Nat.add_zero] at e0
            have hle2 := hr2.le
            have hrt := hr2.tail1
            have hfs : fill l rs = (P ++ [⟨g, a, true⟩]) ++ fill (l.drop (k + 1)) rs2 := by rw [hspec, fill, if_pos rfl, List.append_assoc]; rfl
            have hset := set_flat entCells 3 entCells_len (P ++ ⟨g, r, true⟩ :: l.drop (k + 1)) k 1 (.int .u64 (U a)) ⟨g, r, true⟩ ⟨g, a, true⟩ hmid (by omega) rfl
            rw [set_mid P _ _ _ k HP.out] at hset
            have hown3 := ((hown2.alloc (.cells #[.int .i64 g, .int .u64 (U r), .bool true] 30)).stored (k * 3 + 1) (.int .u64 (U a))).1
            rw [hset] at hown3
            have hownA := hown2.alloc (.cells #[.int .i64 g, .int .u64 (U r), .bool true] 30)
            have f1 := hownA.frozenAt (k * 3 + 1)
            have HS := Lib.hid hfs
            have hm21 : (liveRefs (l.drop (k + 1))).length = m2 - 1 := by omega
            have HM2 := Lib.hid hm21
            have hm1 : 1 ≤ m2 := by omega
            have hc1 : 1 ≤ c2 := by omega
            clear hspec hm2 hfs hset hmid hrl2 hca hm21
            have hB0 := hb4.alloc (show w2.heap.size ≤ wr.heap.size by omega) (.cells #[.int .i64 g, .int .u64 (U r), .bool true] 30)
            have hBw := (show Below w.heap.size W3 wr from hb4.mono (by omega))
            have T1 : (wr.alloc (.cells #[.int .i64 g, .int .u64 (U r), .bool true] 30)).cell? ⟨w.heap.size, 0, none⟩ = some (.slice (some ⟨gb, 0, none⟩) n c') := (hB0.cell (p := ⟨w.heap.size, 0, none⟩) hlt0).trans c0
            have E1 : (wr.alloc (.cells #[.int .i64 g, .int .u64 (U r), .bool true] 30)).cell? ⟨b2, off2, none⟩ = some (.int .u64 (U a)) := (keep_cell (keep_alloc (Below.refl _ _) _) e0)
            have D1 : (wr.alloc (.cells #[.int .i64 g, .int .u64 (U r), .bool true] 30)).cell? ⟨gb, k * 3 + 1, none⟩ = some (.int .u64 (U r)) := (keep_cell (keep_alloc (Below.refl _ _) _) d1)
            have hrt' := hrt.alloc (by omega) (.cells #[.int .i64 g, .int .u64 (U r), .bool true] 30)
            have hszW : (wr.alloc (.cells #[.int .i64 g, .int .u64 (U r), .bool true] 30)).heap.size = wr.heap.size + 1 := by simp
            have hnz : (m2 : Int) = ((m2 - 1 : Nat) : Int) + 1 := by omega
            go_wp2_with fail
            obtain ⟨W4, hW4⟩ : ∃ W4, wr.alloc (.cells #[.int .i64 g, .int .u64 (U r), .bool true] 30) = W4 := ⟨_, rfl⟩
            rw [hW4] at hB0 T1 E1 D1 hrt' hszW hown3 f1 ⊢
            clear hW4 hown2 hownA t0 e0 d0 d1 d2 hrt hr2
            by_cases hcc : c2 = 1
            · subst hcc
              obtain rfl : m2 = 1 := by omega
              clear hnz
              have hnil : rs2 = [] := List.eq_nil_of_length_eq_zero (by have := hrt'.length (fun _ => rfl) (by omega); omega)
              subst hnil
              have HRT := Lib.hid (Reads.empty0 (w := W4.setCell ⟨gb, k * 3 + 1, none⟩ (.int .u64 (U a))) (B := w.heap.size) (some ⟨b2, off2, none⟩))
              clear hrt'
              go_region_law (fail)
              all_goals
                go_wp2_with fail
                go_roundw
                case rel => exact ⟨k + 1, P ++ [⟨g, a, true⟩], [], some ⟨b2, off2, none⟩, 0, 0, by omega, by go_num, rfl, by rw [List.length_append, HP.out]; rfl, HRT.out.drew, HM2.out, by omega, hown3.drew, ((hB0.setCell (by show w2.heap.size ≤ gb; omega) _).drew), HS.out⟩
                case measure => simp [intOf]; omega
            · have HRT := Lib.hid (hrt'.setCell (p := ⟨gb, k * 3 + 1, none⟩) (by show w.heap.size ≤ gb; omega) (.int .u64 (U a)))
              have hm0 : 0 < m2 := by omega
              have hm3 : (1 : Int) ≤ (m2 : Int) := by omega
              clear hrt' hnz
              go_region_law (fail)
              all_goals
                go_wp2_with fail
                go_roundw
                case rel => exact ⟨k + 1, P ++ [⟨g, a, true⟩], rs2, some ⟨b2, off2 + 1, none⟩, m2 - 1, c2 - 1, by omega, by go_num, rfl, by rw [List.length_append, HP.out]; rfl, HRT.out.drew, HM2.out, by omega, hown3.drew, ((hB0.setCell (by show w2.heap.size ≤ gb; omega) _).drew), HS.out⟩
                case measure => simp [intOf]; omega
        · have hkn : k = n := by omega
          subst hkn
          have hdr := drop_end HLEN.out hlt
          rw [hdr] at hown2 hspec
          rw [fill, List.append_nil] at hspec
          rw [List.append_nil] at hown2
          have HS := Lib.hid hspec
          have R5 := R3'.belowB hb4 (by omega)
          have r5 : wr.cell? ⟨w.heap.size + 1, 0, none⟩ = some (.slice none 0 0) := R5.cell 0 _ rfl
          have fr5 := R5.free
          have hB4 : Below w.heap.size w wr := hB3'.trans (hb4.mono (by omega))
          clear hspec hdr hlt T3
          go_wp2_with fail
          refine bodyPost_ret (v := .tuple #[tabV A' k c', .int .i64 0]) (by simp [results, Try.results23, go_sem, r5]) rfl ?_
          have hown6 := ownsRow_setCell_below hown2 (a := ⟨w.heap.size + 1, 0, none⟩) (by show w.heap.size + 1 < _; omega) (.slice A' k c')
          rw [← HS.out] at hown6
          obtain ⟨A3, c3, e3, hr3⟩ := Reads.own hown6
          injection e3 with x1 x2 x3
          subst x1 x3
          refine ⟨_, _, by rw [HF.out], by rw [HF.out]; exact hr3, ?_⟩
          exact hB4.setCell (by simp) _
    · have hres : moveW l rs = ([], 1) := by unfold moveW; rw [if_neg (fun h => hm (by rw [h.2, hrl]))]
      rw [hres]
      have hb0 : (((liveRefs l).length : Int) != (m : Int)) = true := by simp; omega
      clear hv hrefs hres hm hlen hrl hll
      go_enter Try.func23, Try.ntmps23
      go_wp2_with fail
      refine (valid_any _ _ _ _ _ ha).mono ?_
      rintro e w1 ⟨rfl, hb1⟩
      rw [HV.out]
      have B1 := B0.below hb1
      have R1 := R0.below hb1
      have hs1 := hb1.size
      simp at hs1
      have q0 : w1.cell? ⟨w.heap.size, 0, none⟩ = some (.slice A n c) := B1.cell 0 _ rfl
      have hB1 : Below w.heap.size w w1 := hW.trans (hb1.mono (by simp; omega))
      go_wp2_with fail
      refine (refs_any _ _ _ _ _ (ha.belowU hb1) HN.out).mono ?_
      rw [HR.out]
      rintro e w2 ⟨Ax, cx, rfl, -, hb2⟩
      have R2 := R1.below hb2
      have r2 : w2.cell? ⟨w.heap.size + 1, 0, none⟩ = some (.slice none 0 0) := R2.cell 0 _ rfl
      have fr2 := R2.free
      have hB2 : Below w.heap.size w w2 := keep_below hb2 hB1
      go_wp2_with fail
      refine bodyPost_ret (v := .tuple #[tabV none 0 0, .int .i64 1]) (by simp [results, Try.results23, go_sem, r2]) rfl ?_
      exact ⟨none, 0, rfl, Reads.nil, hB2.setCell (by simp) _⟩
  · have hres : moveW l rs = ([], 1) := by unfold moveW; rw [if_neg (fun h => hv h.1)]
    rw [hres]
    simp only [Bool.not_eq_true] at hv
    have HV := Lib.hid hv
    clear hv hlen hres hrl
    go_enter Try.func23, Try.ntmps23
    go_wp2_with fail
    refine (valid_any _ _ _ _ _ ha).mono ?_
    rintro e w1 ⟨rfl, hb1'⟩
    rw [HV.out]
    have R1 := R0.below hb1'
    have hs1 := hb1'.size
    simp at hs1
    have r0 : w1.cell? ⟨w.heap.size + 1, 0, none⟩ = some (.slice none 0 0) := R1.cell 0 _ rfl
    have fr := R1.free
    have hB1 : Below w.heap.size w w1 := hW.trans (hb1'.mono (by simp; omega))
    go_wp2_with fail
    refine bodyPost_ret (v := .tuple #[tabV none 0 0, .int .i64 1]) (by simp [results, Try.results23, go_sem, r0]) rfl ?_
    exact ⟨none, 0, rfl, Reads.nil, hB1.setCell (by simp) _⟩
end Go.Proofs.Ytfcghhpbjnlldaa

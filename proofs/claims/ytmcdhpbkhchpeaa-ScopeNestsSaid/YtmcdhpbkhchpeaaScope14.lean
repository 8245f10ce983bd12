/- The contract of closed. -/
import Derived.Test.YtmcdhpbkhchpeaaScope12
namespace Go.Proofs.Ytmcdhpbkhchpeaa
open Go.ChangeShapes Go.WideShapes Go.RowKit Words

theorem own_cut {w : World} {base e s n c m : Nat} {A : Option Addr} {xs : List Value} (h : w.ownsRow base e s (.slice A n c) n xs) (hm : m ≤ n) : w.ownsRow base e s (.slice A m c) m (xs.take (m * s)) := by
  have hms : m * s ≤ n * s := Nat.mul_le_mul_right s hm
  refine ⟨by rw [List.length_take, h.1]; omega, ?_⟩
  rcases h.2 with ⟨hv, hn⟩ | ⟨g, cap, cur, hv, hb, hg, hnc, hcap, hsz, ht⟩
  · injection hv with h1 h2 h3
    subst h1 h3
    left
    obtain rfl : m = 0 := by omega
    exact ⟨rfl, rfl⟩
  · injection hv with h1 h2 h3
    subst h1 h3
    right
    exact ⟨g, c, cur, rfl, hb, hg, by omega, hcap, hsz, by rw [← ht, List.take_take]; congr 1; omega⟩
theorem LOwn.cut {w : World} {base : Nat} {As Ap Ai : Option Addr} {ns cs np cp ni ci : Nat} {S : List Sl} {P : List Sc} {I : List Int} (h : LOwn w base As ns cs Ap np cp Ai ni ci S P I) {f k : Nat} (hf : f ≤ ns) (hk : k ≤ np) :
    LOwn w base As f cs Ap k cp Ai ni ci (S.take f) (P.take k) I :=
  ⟨by rw [← flat_take slCells 3 slCells_len]; exact own_cut h.s hf, by rw [← flat_take scCells 3 scCells_len]; exact own_cut h.p hk, h.i⟩

set_option linter.unusedSimpArgs false in
set_option maxRecDepth 100000 in
set_option maxHeartbeats 4000000 in
theorem closed_any (As : Option Addr) (ns cs : Nat) (Ap : Option Addr) (np cp : Nat) (Ai : Option Addr) (ni ci : Nat) (S : List Sl) (P : List Sc) (I : List Int) (k f : Nat) (q : Sc) (w : World) (h : LRd w As ns cs Ap np cp Ai ni ci S P I)
    (hs : ns ≤ 1000000) (hp : np ≤ 1000000) (hi : ni ≤ 1000000) (hq : P[k]? = some q) (hf : q.from_ = (f : Int)) (hfn : f ≤ ns) :
    Calls Try.prog 44 #[locV As ns cs Ap np cp Ai ni ci, .int .i64 k] w (RetLoc w f k ni (S.take f) (P.take k) I) := by
  obtain ⟨hS, hP, hI⟩ := h.lens
  have hB : Below w.heap.size w ((w.alloc (.cells #[.slice As ns cs, .slice Ap np cp, .slice Ai ni ci] 26)).alloc (.cells #[.slice none 0 0, .slice none 0 0, .slice none 0 0] 26)) := keep_alloc (loc_alloc w _ _ _ _) _
  have B0 := (Blk.new w #[.slice As ns cs, .slice Ap np cp, .slice Ai ni ci] 26).alloc (.cells #[.slice none 0 0, .slice none 0 0, .slice none 0 0] 26)
  have R0 := Blk.newAt (w.alloc (.cells #[.slice As ns cs, .slice Ap np cp, .slice Ai ni ci] 26)) #[.slice none 0 0, .slice none 0 0, .slice none 0 0] 26 (w.heap.size + 1) (by simp)
  have hh := h.belowU hB
  have hsz : ((w.alloc (.cells #[.slice As ns cs, .slice Ap np cp, .slice Ai ni ci] 26)).alloc (.cells #[.slice none 0 0, .slice none 0 0, .slice none 0 0] 26)).heap.size = w.heap.size + 2 := by simp
  have HSZ := Lib.hid hsz
  have hkn : k < np := by rw [← hP]; exact (List.getElem?_eq_some_iff.1 hq).1
  have b0 := B0.cell 0 _ rfl
  have b1 := B0.cell 1 _ rfl
  have b2 := B0.cell 2 _ rfl
  have hpc : ((P.flatMap scCells))[k * 3]? = some (.int .i64 f) := by have := flat_at scCells 3 scCells_len P k 0 (by omega) _ hq; rw [Nat.add_zero] at this; rw [this, ← hf]; rfl
  have HPC := Lib.hid hpc
  clear h hS hP hI hsz hpc hq hf
  go_enter Try.func44, Try.ntmps44
  go_wp2_with fail
  refine (clone_any As ns cs Ap np cp Ai ni ci S P I _ hh hs hp hi).mono ?_
  rintro e w2 ⟨A1, c1, A2, c2, A3, c3, rfl, hown, hb2⟩
  rcases hown.p.2 with ⟨-, hz⟩ | ⟨gb, cap, cu, hgb, hbg, -, hn2, hm2, -, -⟩
  · exfalso; omega
  simp only [Value.slice.injEq] at hgb
  obtain ⟨rfl, -, rfl⟩ := hgb
  have hsc := hown.s.2
  have hcs1 : ns ≤ c1 ∧ c1 ≤ maxLen := by
    rcases hsc with ⟨hv, hz⟩ | ⟨g1, cap1, cu1, hv, -, -, h1, h2, -, -⟩
    · injection hv with x1 x2 x3; subst x3; exact ⟨by omega, by decide⟩
    · injection hv with x1 x2 x3; subst x3; exact ⟨h1, h2⟩
  unfold maxLen at hcs1 hm2
  have B2 := B0.below hb2
  have R2 := R0.below hb2
  have hs2 : w.heap.size + 2 ≤ w2.heap.size := by have := HSZ.out; have := hb2.size; omega
  have hB2 := keep_below hb2 hB
  clear b0 b1 b2
  have b0 := B2.cell 0 _ rfl
  have b1 := B2.cell 1 _ rfl
  have b2 := B2.cell 2 _ rfl
  have fb := B2.free
  have T3 := B2.put3 (.slice A1 ns c1) (.slice (some ⟨gb, 0, none⟩) np c2) (.slice A3 ni c3)
  have R3 := ((R2.far (p := ⟨w.heap.size, 0, none⟩) (by show w.heap.size + 1 ≠ w.heap.size; omega) (.slice A1 ns c1)).far (p := ⟨w.heap.size, 1, none⟩) (by show w.heap.size + 1 ≠ w.heap.size; omega) (.slice (some ⟨gb, 0, none⟩) np c2)).far (p := ⟨w.heap.size, 2, none⟩) (by show w.heap.size + 1 ≠ w.heap.size; omega) (.slice A3 ni c3)
  have hlo : w.heap.size + 2 ≤ ((w.alloc (.cells #[.slice As ns cs, .slice Ap np cp, .slice Ai ni ci] 26)).alloc (.cells #[.slice none 0 0, .slice none 0 0, .slice none 0 0] 26)).heap.size := by rw [HSZ.out]; exact Nat.le_refl _
  have hown2 := hown.rebase hlo
  rw [HSZ.out] at hbg
  have hown3 := ((hown2.far (a := ⟨w.heap.size, 0, none⟩) (by show w.heap.size < _; omega) (.slice A1 ns c1)).far (a := ⟨w.heap.size, 1, none⟩) (by show w.heap.size < _; omega) (.slice (some ⟨gb, 0, none⟩) np c2)).far (a := ⟨w.heap.size, 2, none⟩) (by show w.heap.size < _; omega) (.slice A3 ni c3)
  have hB3 : Below w.heap.size w (((w2.setCell ⟨w.heap.size, 0, none⟩ (.slice A1 ns c1)).setCell ⟨w.heap.size, 1, none⟩ (.slice (some ⟨gb, 0, none⟩) np c2)).setCell ⟨w.heap.size, 2, none⟩ (.slice A3 ni c3)) :=
    ((hB2.setCell (by show w.heap.size ≤ w.heap.size; omega) _).setCell (by show w.heap.size ≤ w.heap.size; omega) _).setCell (by show w.heap.size ≤ w.heap.size; omega) _
  obtain ⟨w3, hw3⟩ : ∃ w3, ((w2.setCell ⟨w.heap.size, 0, none⟩ (.slice A1 ns c1)).setCell ⟨w.heap.size, 1, none⟩ (.slice (some ⟨gb, 0, none⟩) np c2)).setCell ⟨w.heap.size, 2, none⟩ (.slice A3 ni c3) = w3 := ⟨_, rfl⟩
  rw [hw3] at T3 R3 hown3 hB3
  clear B0 R0 hh hB hown hown2 B2 R2 hb2 hB2 hlo
  have t0 : w3.cell? ⟨w.heap.size, 0, none⟩ = some (.slice A1 ns c1) := T3.cell 0 _ rfl
  have t1 : w3.cell? ⟨w.heap.size, 1, none⟩ = some (.slice (some ⟨gb, 0, none⟩) np c2) := T3.cell 1 _ rfl
  have ft := T3.free
  have x1 := (hown3.p.cellAt (k * 3) (by omega)).trans HPC.out
  have k0 : (0 : Int) ≤ (k : Int) := by omega
  have k1 : (k : Int) < (np : Int) := by omega
  have f0 : (0 : Int) ≤ (f : Int) := by omega
  have f1 : (f : Int) ≤ (c1 : Int) := by omega
  have k2 : (k : Int) ≤ (c2 : Int) := by omega
  have hcut := hown3.cut hfn (show k ≤ np by omega)
  have HCUT := Lib.hid hcut
  have HT3 := Lib.hid T3
  have HR3 := Lib.hid R3
  have HB3 := Lib.hid hB3
  clear hown3 T3 R3 hB3 hcut
  go_wp2_with fail
  clear hw3 b0 b1 b2 fb
  go_region_law (fail)
  all_goals
    have T5 := ((HT3.out.put0 (.slice A1 f c1)).put1 (.slice (some ⟨gb, 0, none⟩) k c2)).drew
    have R5 := ((HR3.out.far (p := ⟨w.heap.size, 0, none⟩) (by show w.heap.size + 1 ≠ w.heap.size; omega) (.slice A1 f c1)).far (p := ⟨w.heap.size, 1, none⟩) (by show w.heap.size + 1 ≠ w.heap.size; omega) (.slice (some ⟨gb, 0, none⟩) k c2)).drew
    have B5 := ((HB3.out.setCell (p := ⟨w.heap.size, 0, none⟩) (by show w.heap.size ≤ w.heap.size; omega) (.slice A1 f c1)).setCell (p := ⟨w.heap.size, 1, none⟩) (by show w.heap.size ≤ w.heap.size; omega) (.slice (some ⟨gb, 0, none⟩) k c2)).drew
    have O5 := (((HCUT.out.far (a := ⟨w.heap.size, 0, none⟩) (by show w.heap.size < _; omega) (.slice A1 f c1)).far (a := ⟨w.heap.size, 1, none⟩) (by show w.heap.size < _; omega) (.slice (some ⟨gb, 0, none⟩) k c2))).below (Below.refl _ _).drew
    clear x1 t0 t1 ft HCUT HT3 HR3 HB3
    generalize ((w3.setCell ⟨w.heap.size, 0, none⟩ (.slice A1 f c1)).setCell ⟨w.heap.size, 1, none⟩ (.slice (some ⟨gb, 0, none⟩) k c2)).drew = w5 at T5 R5 B5 O5 ⊢
    have a0 := T5.cell 0 _ rfl
    have a1 := T5.cell 1 _ rfl
    have a2 := T5.cell 2 _ rfl
    have r0 := R5.cell 0 _ rfl
    have r1 := R5.cell 1 _ rfl
    have r2 := R5.cell 2 _ rfl
    have fr := R5.free
    have G := R5.put3 (.slice A1 f c1) (.slice (some ⟨gb, 0, none⟩) k c2) (.slice A3 ni c3)
    have g0 := G.cell 0 _ rfl
    have g1 := G.cell 1 _ rfl
    have g2 := G.cell 2 _ rfl
    have HO := Lib.hid (((((O5.far (a := ⟨w.heap.size + 1, 0, none⟩) (by show w.heap.size + 1 < _; omega) (.slice A1 f c1)).far (a := ⟨w.heap.size + 1, 1, none⟩) (by show w.heap.size + 1 < _; omega) (.slice (some ⟨gb, 0, none⟩) k c2)).far (a := ⟨w.heap.size + 1, 2, none⟩) (by show w.heap.size + 1 < _; omega) (.slice A3 ni c3))).rebase (base' := w.heap.size) (by omega))
    have HBF := Lib.hid (keep_set3 B5 (.slice A1 f c1) (.slice (some ⟨gb, 0, none⟩) k c2) (.slice A3 ni c3))
    clear G R5 T5 B5 O5
    go_wp2_with fail
    refine bodyPost_ret (v := locV A1 f c1 (some ⟨gb, 0, none⟩) k c2 A3 ni c3) (by simp [results, Try.results44, go_sem, g0, g1, g2]) rfl ?_
    exact ⟨_, _, _, _, _, _, rfl, HO.out, HBF.out⟩
end Go.Proofs.Ytmcdhpbkhchpeaa

/- The contract of the reference's cut. Printed by mk_scope24.py. -/
import Derived.Test.YtmcdhpbkhchpeaaScopeRet
import Derived.Test.YtmcdhpbkhchpeaaScope15
import Derived.Deep.CutRange
namespace Go.Proofs.Ytmcdhpbkhchpeaa
open Go.ChangeShapes Go.WideShapes Go.RowKit Words

theorem Reads.head {α : Type} {f : α → List Value} {w : World} {B s n c m : Nat} {A : Option Addr} {l : List α} (h : Reads w B s A n c (l.flatMap f)) (hs : ∀ a, (f a).length = s) (h0 : 0 < s) (hm : m ≤ n) : Reads w B s A m c ((l.take m).flatMap f) := by
  have hl := h.length hs h0
  have hle := h.le
  refine ⟨by rw [flat_len f s hs, List.length_take]; congr 1; omega, by omega, h.cap, h.none_, fun hn => ?_⟩
  obtain ⟨b, off, e, hb, hc⟩ := h.at_ (by omega)
  refine ⟨b, off, e, hb, fun j u hu => hc j u ?_⟩
  rw [← flat_take f s hs, List.getElem?_take] at hu
  split at hu
  · exact hu
  · cases hu
/-- local handles that can be read come back -/
def RetRLoc (w : World) (ns np ni : Nat) (S : List Sl) (P : List Sc) (I : List Int) (e : Ending) (w' : World) : Prop :=
  ∃ As cs Ap cp Ai ci, e = .returned (locV As ns cs Ap np cp Ai ni ci) ∧ LRd w' As ns cs Ap np cp Ai ni ci S P I ∧ Below w.heap.size w w'

set_option linter.unusedSimpArgs false in
set_option maxRecDepth 100000 in
set_option maxHeartbeats 8000000 in
theorem rcut_any (As : Option Addr) (ns cs : Nat) (Ap : Option Addr) (np cp : Nat) (Ai : Option Addr) (ni ci : Nat) (S : List Sl) (P : List Sc) (I : List Int) (k f : Nat) (q : Sc) (w : World) (h : LRd w As ns cs Ap np cp Ai ni ci S P I)
    (hs : ns ≤ 1000000) (hp : np ≤ 1000000) (hq : P[k]? = some q) (hf : q.from_ = (f : Int)) (hfn : f ≤ ns) :
    Calls Try.prog 45 #[locV As ns cs Ap np cp Ai ni ci, .int .i64 k] w (RetRLoc w f k ni (S.take f) (P.take k) I) := by
  obtain ⟨hS, hP, hI⟩ := h.lens
  have hB : Below w.heap.size w ((w.alloc (.cells #[.slice As ns cs, .slice Ap np cp, .slice Ai ni ci] 26)).alloc (.cells #[.slice none 0 0, .slice none 0 0, .slice none 0 0] 26)) := keep_alloc (loc_alloc w _ _ _ _) _
  have B0 := (Blk.new w #[.slice As ns cs, .slice Ap np cp, .slice Ai ni ci] 26).alloc (.cells #[.slice none 0 0, .slice none 0 0, .slice none 0 0] 26)
  have R0 := Blk.newAt (w.alloc (.cells #[.slice As ns cs, .slice Ap np cp, .slice Ai ni ci] 26)) #[.slice none 0 0, .slice none 0 0, .slice none 0 0] 26 (w.heap.size + 1) (by simp)
  have hh := h.belowU hB
  have hcs := h.s.cap
  have hls := h.s.le
  have hcp := h.p.cap
  have hlp := h.p.le
  unfold maxLen at hcs hcp
  have hkn : k < np := by rw [← hP]; exact (List.getElem?_eq_some_iff.1 hq).1
  have HHW := Lib.hid h
  obtain ⟨w1, hw1⟩ : ∃ w1, (w.alloc (.cells #[.slice As ns cs, .slice Ap np cp, .slice Ai ni ci] 26)).alloc (.cells #[.slice none 0 0, .slice none 0 0, .slice none 0 0] 26) = w1 := ⟨_, rfl⟩
  have hsz : w1.heap.size = w.heap.size + 2 := by rw [← hw1]; simp
  rw [hw1] at hB B0 R0 hh
  have hs1 : w.heap.size + 2 ≤ w1.heap.size := by omega
  obtain ⟨b, off, q', rfl, hbb, hq', hc⟩ := hh.p.elem scCells_len (by omega) hkn
  obtain rfl : q = q' := Option.some.inj (hq.symm.trans hq')
  have c0 := hc 0 _ rfl
  rw [Nat.add_zero, hf] at c0
  have k0 : (0 : Int) ≤ (k : Int) := by omega
  have k1 : (k : Int) < (np : Int) := by omega
  have k2 : (k : Int) ≤ (cp : Int) := by omega
  have f0 : (0 : Int) ≤ (f : Int) := by omega
  have f1 : (f : Int) ≤ (cs : Int) := by omega
  have rdS := (hh.s.head slCells_len (by omega) hfn).alloc (Nat.le_refl _) (.cells #[] 62)
  have own1 := own_lit0 w1 62 3 w1.heap.size w1.heap.size (Nat.le_refl _) rfl
  have q1 : 0 + f ≤ maxLen := by unfold maxLen; omega
  have q2 : (0 + f) * 24 ≤ 140737488355328 := by omega
  have p1 : 0 + k ≤ maxLen := by unfold maxLen; omega
  have p2 : (0 + k) * 24 ≤ 140737488355328 := by omega
  have b0 := B0.cell 0 _ rfl
  have b1 := B0.cell 1 _ rfl
  have HSZ := Lib.hid hsz
  clear h hS hP hI hsz hq hq' hf hc
  go_enter Try.func45, Try.ntmps45
  go_upto_region 1 with fail
  try rw [hw1]
  have L1 : ∀ u, Below w1.heap.size w1 u → u.cell? ⟨w.heap.size, 0, none⟩ = some (.slice As ns cs) := fun u hu => (B0.below hu).cell 0 _ rfl
  have L2 : ∀ u, Below w1.heap.size w1 u → u.cell? ⟨w.heap.size, 1, none⟩ = some (.slice (some ⟨b, off, none⟩) np cp) := fun u hu => (B0.below hu).cell 1 _ rfl
  have LC : ∀ u, Below w1.heap.size w1 u → u.cell? ⟨b, off + k * 3, none⟩ = some (.int .i64 f) := fun u hu => keep_cell hu c0
  have hb0 := Below.refl w1.heap.size w1
  have hbA := keep_alloc (Below.refl w1.heap.size w1) (.cells #[] 62)
  clear b0 b1 c0
  have F0 : ∀ u, Below w1.heap.size w1 u → ∀ i, u.frozen? ⟨w.heap.size, i, none⟩ = false := fun u hu => (B0.below hu).free
  go_cut [] from 5 to 16 (fun wx => ∃ (AD : Option Addr) (cD : Nat), Blk wx w.heap.size 26 #[.slice AD f cD, .slice (some ⟨b, off, none⟩) np cp, .slice Ai ni ci] ∧ Blk wx (w.heap.size + 1) 26 #[.slice none 0 0, .slice none 0 0, .slice none 0 0] ∧ wx.ownsRow w1.heap.size 62 3 (.slice AD f cD) f ((S.take f).flatMap slCells) ∧ Below w.heap.size w wx)
  case first =>
    clear hw1
    go_region_law
      (first
      | (refine step_appG rfl _ _ _ (by rfl) tySl (by rfl) own1.drew (by rfl) rdS.drew (slCells_one (S.take f)) q1 q2 (by simp) ?_; intro vD wD ownD hgD; have hbD : Below w1.heap.size w1 wD := (keep_alloc (Below.refl _ _) _).drew.trans (below_own own1.drew hgD (Nat.le_refl _) (by simp)); rw [Nat.zero_add, List.nil_append] at ownD; obtain ⟨AD, cD, rfl, -⟩ := Reads.own ownD; have t1 := L1 wD hbD; have ft := F0 wD hbD)
      | fail)
    all_goals
      have T6 := (B0.below hbD).put0 (.slice AD f cD)
      have R6 := (R0.below hbD).far (p := ⟨w.heap.size, 0, none⟩) (by show w.heap.size + 1 ≠ w.heap.size; omega) (.slice AD f cD)
      have own6 := ownsRow_setCell_below ownD (a := ⟨w.heap.size, 0, none⟩) (by show w.heap.size < _; omega) (.slice AD f cD)
      have hB6 := (hB.trans (hbD.mono (by omega))).setCell (p := ⟨w.heap.size, 0, none⟩) (by show w.heap.size ≤ w.heap.size; omega) (.slice AD f cD)
      go_wp2_with fail
      go_meet
      first
      | exact ⟨AD, cD, T6, R6, own6, hB6⟩
      | exact ⟨AD, cD, T6.drew, R6.drew, own6.drew, hB6.drew⟩
  case rest =>
    obtain ⟨AD, cD, T6, R6, own6, hB6⟩ := hcut
    clear L1 L2 LC hb0 hbA F0 rdS own1 hh B0 R0 hw1 hbb
    have hs6 : w.heap.size + 2 ≤ wc.heap.size := by
      have := HSZ.out
      have := R6.lt
      omega
    have hp6 := ((HHW.out.p.below hB6).more hB6.size).head scCells_len (by omega) (show k ≤ np by omega)
    have rdP := hp6.alloc (Nat.le_refl _) (.cells #[] 59)
    have own2 := own_lit0 wc 59 3 wc.heap.size wc.heap.size (Nat.le_refl _) rfl
    have b1 : (wc.alloc (.cells #[] 59)).cell? ⟨w.heap.size, 1, none⟩ = some (.slice (some ⟨b, off, none⟩) np cp) := (T6.alloc _).cell 1 _ rfl
    go_upto_region 3 with (at_builtin; (refine wpList_appG rfl _ _ _ rfl tySc rfl own2 rfl rdP (scCells_one (P.take k)) p1 p2 (by simp) ?_; intro v4 w4 own4 hg4; rw [Nat.zero_add, List.nil_append] at own4; have hb4 : Below wc.heap.size wc w4 := (keep_alloc (Below.refl _ _) _).trans (below_own own2 hg4 (Nat.le_refl _) (by simp)); obtain ⟨A4, c4, rfl, -⟩ := Reads.own own4; have T7 := T6.below hb4; have t7 := T7.cell 1 _ rfl; have f7 := T7.free))
    have T8 := T7.put1 (.slice A4 k c4)
    have R8 := (R6.below hb4).far (p := ⟨w.heap.size, 1, none⟩) (by show w.heap.size + 1 ≠ w.heap.size; omega) (.slice A4 k c4)
    have O8 := ownsRow_setCell_below own4 (a := ⟨w.heap.size, 1, none⟩) (by show w.heap.size < _; omega) (.slice A4 k c4)
    have OS8 := ownsRow_setCell_below (own_keep own6 hb4) (a := ⟨w.heap.size, 1, none⟩) (by show w.heap.size < _; omega) (.slice A4 k c4)
    have hB8 := (keep_below hb4 hB6).setCell (p := ⟨w.heap.size, 1, none⟩) (by show w.heap.size ≤ w.heap.size; omega) (.slice A4 k c4)
    clear t7 f7 T7 own4 hg4 hb4 b1 own2 rdP hp6 T6 R6 own6 hB6
    obtain ⟨w8, hw8⟩ : ∃ w8, w4.setCell ⟨w.heap.size, 1, none⟩ (.slice A4 k c4) = w8 := ⟨_, rfl⟩
    rw [hw8] at T8 R8 O8 OS8 hB8 ⊢
    clear hw8
    have a0 := T8.cell 0 _ rfl
    have a1 := T8.cell 1 _ rfl
    have a2 := T8.cell 2 _ rfl
    have r0 := R8.cell 0 _ rfl
    have r1 := R8.cell 1 _ rfl
    have r2 := R8.cell 2 _ rfl
    have fr := R8.free
    have G := R8.put3 (.slice AD f cD) (.slice A4 k c4) (.slice Ai ni ci)
    have g0 := G.cell 0 _ rfl
    have g1 := G.cell 1 _ rfl
    have g2 := G.cell 2 _ rfl
    have hBF := keep_set3 hB8 (.slice AD f cD) (.slice A4 k c4) (.slice Ai ni ci)
    have HO := Lib.hid (LRd.mk (reads_own (own_put3 OS8 (g := w.heap.size + 1) (by omega) (.slice AD f cD) (.slice A4 k c4) (.slice Ai ni ci))) (reads_own (own_put3 O8 (g := w.heap.size + 1) (by omega) (.slice AD f cD) (.slice A4 k c4) (.slice Ai ni ci))) ((HHW.out.i.below hBF).more hBF.size))
    have HBF := Lib.hid hBF
    clear G R8 T8 O8 OS8 hB8 hBF
    go_wp2_with fail
    refine bodyPost_ret (v := locV AD f cD A4 k c4 Ai ni ci) (by simp [results, Try.results45, go_sem, g0, g1, g2]) rfl ?_
    exact ⟨_, _, _, _, _, _, rfl, HO.out, HBF.out⟩
end Go.Proofs.Ytmcdhpbkhchpeaa

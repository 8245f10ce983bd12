/- The contract of the reference's open. Printed by mk_scope13.py. -/
import Derived.Test.YtmcdhpbkhchpeaaScopeRet
import Derived.Deep.CutRange
namespace Go.Proofs.Ytmcdhpbkhchpeaa
open Go.ChangeShapes Go.WideShapes Go.RowKit Words

set_option linter.unusedSimpArgs false in
set_option maxRecDepth 100000 in
set_option maxHeartbeats 8000000 in
theorem ropen_any (As : Option Addr) (ns cs : Nat) (Ap : Option Addr) (np cp : Nat) (Ai : Option Addr) (ni ci : Nat) (S : List Sl) (P : List Sc) (I : List Int) (c : Int) (b : Bool) (w : World) (h : LRd w As ns cs Ap np cp Ai ni ci S P I)
    (hs : ns ≤ 1000000) (hi : ni ≤ 1000000) :
    Calls Try.prog 43 #[locV As ns cs Ap np cp Ai ni ci, .int .i64 c, .bool b] w (RetLR w (openL ⟨S, P, I⟩ c b)) := by
  obtain ⟨hS, hP, hI⟩ := h.lens
  have hB : Below w.heap.size w ((w.alloc (.cells #[.slice As ns cs, .slice Ap np cp, .slice Ai ni ci] 26)).alloc (.cells #[.slice none 0 0, .slice none 0 0, .slice none 0 0] 26)) := keep_alloc (loc_alloc w _ _ _ _) _
  have B0 := (Blk.new w #[.slice As ns cs, .slice Ap np cp, .slice Ai ni ci] 26).alloc (.cells #[.slice none 0 0, .slice none 0 0, .slice none 0 0] 26)
  have R0 := Blk.newAt (w.alloc (.cells #[.slice As ns cs, .slice Ap np cp, .slice Ai ni ci] 26)) #[.slice none 0 0, .slice none 0 0, .slice none 0 0] 26 (w.heap.size + 1) (by simp)
  have hh := h.belowU hB
  obtain ⟨vb, hvb⟩ : ∃ vb, validL S P I = vb := ⟨_, rfl⟩
  have HVB := Lib.hid hvb
  have HS := Lib.hid hS
  have HP := Lib.hid hP
  have HI := Lib.hid hI
  have HHW := Lib.hid h
  have hsz : ((w.alloc (.cells #[.slice As ns cs, .slice Ap np cp, .slice Ai ni ci] 26)).alloc (.cells #[.slice none 0 0, .slice none 0 0, .slice none 0 0] 26)).heap.size = w.heap.size + 2 := by simp
  have HSZ := Lib.hid hsz
  clear h hS hP hI hvb hsz
  by_cases hbad : vb = false ∨ c < 0 ∨ 64 < c
  · have HR := Lib.hid (openL_arg (x := ⟨S, P, I⟩) (c := c) (b := b) (by unfold Lc.valid; rw [HVB.out]; exact hbad))
    rw [HR.out]
    go_enter Try.func43, Try.ntmps43
    go_wp2_with fail
    refine (rvalid_any As ns cs Ap np cp Ai ni ci S P I _ hh).mono ?_
    rw [HVB.out]
    rintro e w1 ⟨rfl, hb1⟩
    have R1 := R0.below hb1
    have fr := R1.free
    have r0 := R1.cell 0 _ rfl
    have r1 := R1.cell 1 _ rfl
    have r2 := R1.cell 2 _ rfl
    have G := R1.put3 (.slice none 0 0) (.slice none 0 0) (.slice none 0 0)
    have g20 := G.cell 0 _ rfl
    have g21 := G.cell 1 _ rfl
    have g22 := G.cell 2 _ rfl
    have hB1 := keep_below hb1 hB
    clear R1 G hb1 hB B0 R0 hh
    by_cases hv : vb = false
    · subst hv
      go_wp2_with fail
      refine bodyPost_ret (v := .tuple #[locV none 0 0 none 0 0 none 0 0, .int .i64 1]) (by simp [results, Try.results43, go_sem, g20, g21, g22]) rfl ?_
      exact RetLR.fail hB1
    · have hv1 : vb = true := by simpa using hv
      subst hv1
      by_cases h0 : c < 0
      · have e0 : decide (c < 0) = true := decide_eq_true h0
        clear hbad hv
        go_wp2_with fail
        refine bodyPost_ret (v := .tuple #[locV none 0 0 none 0 0 none 0 0, .int .i64 1]) (by simp [results, Try.results43, go_sem, g20, g21, g22]) rfl ?_
        exact RetLR.fail hB1
      · have e0 : decide (c < 0) = false := decide_eq_false h0
        have e1 : decide (64 < c) = true := decide_eq_true (by rcases hbad with h | h | h; exact absurd h hv; exact absurd h h0; exact h)
        clear hbad hv
        go_wp2_with fail
        refine bodyPost_ret (v := .tuple #[locV none 0 0 none 0 0 none 0 0, .int .i64 1]) (by simp [results, Try.results43, go_sem, g20, g21, g22]) rfl ?_
        exact RetLR.fail hB1
  have hvt : vb = true := by cases vb; exact absurd (Or.inl rfl) hbad; rfl
  have e0 : decide (c < 0) = false := decide_eq_false (fun h => hbad (Or.inr (Or.inl h)))
  have e1 : decide (64 < c) = false := decide_eq_false (fun h => hbad (Or.inr (Or.inr h)))
  subst hvt
  have HBAD := Lib.hid (show ¬ ((⟨S, P, I⟩ : Lc).valid = false ∨ c < 0 ∨ 64 < c) by unfold Lc.valid; rw [HVB.out]; exact hbad)
  have hnp64 : np ≤ 64 := by
    have := HVB.out
    unfold validL at this
    simp only [Bool.and_eq_true] at this
    have := (nestedB_go this.2.1).2.1
    rw [HP.out] at this; exact this
  have HNP := Lib.hid hnp64
  clear hbad hnp64
  go_enter Try.func43, Try.ntmps43
  go_wp2_with fail
  refine (rvalid_any As ns cs Ap np cp Ai ni ci S P I _ hh).mono ?_
  rw [HVB.out]
  rintro e w1 ⟨rfl, hb1⟩
  have B1 := B0.below hb1
  have R1 := R0.below hb1
  have hh1 := hh.belowU hb1
  have hB1 := keep_below hb1 hB
  have hs1 : w.heap.size + 2 ≤ w1.heap.size := by have := HSZ.out; have := hb1.size; omega
  have b0 := B1.cell 0 _ rfl
  have b1 := B1.cell 1 _ rfl
  have b2 := B1.cell 2 _ rfl
  have fr := R1.free
  have r0 := R1.cell 0 _ rfl
  have r1 := R1.cell 1 _ rfl
  have r2 := R1.cell 2 _ rfl
  have G := R1.put3 (.slice none 0 0) (.slice none 0 0) (.slice none 0 0)
  have g20 := G.cell 0 _ rfl
  have g21 := G.cell 1 _ rfl
  have g22 := G.cell 2 _ rfl
  clear B0 R0 hh hB hb1 G
  by_cases hsc : b = false ∧ np = 0
  · have HR := Lib.hid (openL_scope HBAD.out (b := b) ⟨hsc.1, by rw [HP.out]; exact hsc.2⟩)
    obtain ⟨rfl, hz⟩ := hsc
    have hz1 : ((np : Int) == 0) = true := by simp; omega
    clear R1 B1 hz hh1
    go_wp2_with fail
    refine bodyPost_ret (v := .tuple #[locV none 0 0 none 0 0 none 0 0, .int .i64 9]) (by simp [results, Try.results43, go_sem, g20, g21, g22]) rfl ?_
    rw [HR.out]
    exact RetLR.fail hB1
  have HSC := Lib.hid (show ¬ (b = false ∧ (⟨S, P, I⟩ : Lc).p.length = 0) by dsimp only; rw [HP.out]; exact hsc)
  have hcs : b = true ∨ (b = false ∧ ((np : Int) == 0) = false) := by
    cases b
    · right; exact ⟨rfl, by have := fun e => hsc ⟨rfl, e⟩; simp; omega⟩
    · exact Or.inl rfl
  clear hsc
  by_cases hd : np = 64
  · have HR := Lib.hid (openL_depth HBAD.out HSC.out (by rw [HP.out]; show 64 ≤ np; omega))
    have e2 : ((np : Int) == (64 : Int)) = true := by simp; omega
    clear R1 B1 hh1 hd
    rcases hcs with rfl | ⟨rfl, hz⟩
    all_goals
      go_wp2_with fail
      refine bodyPost_ret (v := .tuple #[locV none 0 0 none 0 0 none 0 0, .int .i64 17]) (by simp [results, Try.results43, go_sem, g20, g21, g22]) rfl ?_
      rw [HR.out]
      exact RetLR.fail hB1
  · have HR := Lib.hid (openL_ok HBAD.out HSC.out (by rw [HP.out]; have := HNP.out; show ¬ 64 ≤ np; omega))
    have e2 : ((np : Int) == (64 : Int)) = false := by simp; omega
    have HHS := Lib.hid hs
    have HHI := Lib.hid hi
    clear hs hi hd g20 g21 g22
    obtain ⟨b', hb'⟩ : ∃ b', (b' : Bool) = b := ⟨_, rfl⟩
    rcases hcs with rfl | ⟨rfl, hz⟩
    · go_upto_region 7 with fail
      have L1 : ∀ u, Below w1.heap.size w1 u → u.cell? ⟨w.heap.size, 1, none⟩ = some (.slice Ap np cp) := fun u hu => (B1.below hu).cell 1 _ rfl
      have L0 : ∀ u, Below w1.heap.size w1 u → u.cell? ⟨w.heap.size, 0, none⟩ = some (.slice As ns cs) := fun u hu => (B1.below hu).cell 0 _ rfl
      have own1 := (own_lit0 w1 59 3 w1.heap.size w1.heap.size (Nat.le_refl _) rfl)
      have own2 := (own_lit0 (w1.alloc (.cells #[.int .i64 ns, .int .i64 c, .bool true] 59)) 59 3 w1.heap.size (w1.heap.size + 1) (by simp) (by simp))
      have lit1 := (Blk.newAt (w1.alloc (.cells #[] 59)) #[.int .i64 ns, .int .i64 c, .bool true] 59 (w1.heap.size + 1) (by simp))
      have lit2 := (Blk.new w1 #[.int .i64 ns, .int .i64 c, .bool true] 59).alloc (.cells #[] 59)
      have q1 : 0 + np ≤ maxLen := by have := HNP.out; unfold maxLen; omega
      have q2 : (0 + np) * 24 ≤ 140737488355328 := by have := HNP.out; omega
      have q3 : 0 + np + 1 ≤ maxLen := by have := HNP.out; unfold maxLen; omega
      have q4 : (0 + np + 1) * 24 ≤ 140737488355328 := by have := HNP.out; omega
      clear b0 b1 b2 fr r0 r1 r2
      have hb0 := Below.refl w1.heap.size w1
      have hbA := keep_alloc (Below.refl w1.heap.size w1) (.cells #[] 59)
      have hbC := keep_alloc (Below.refl w1.heap.size w1) (.cells #[.int .i64 ns, .int .i64 c, .bool true] 59)
      have hbAC := keep_alloc hbA (.cells #[.int .i64 ns, .int .i64 c, .bool true] 59)
      have hbCA := keep_alloc hbC (.cells #[] 59)
      have F0 : ∀ u, Below w1.heap.size w1 u → ∀ i, u.frozen? ⟨w.heap.size, i, none⟩ = false := fun u hu => (B1.below hu).free
      have ownAC := (own1.alloc (.cells #[.int .i64 ns, .int .i64 c, .bool true] 59)).drew
      have rdAC := ((hh1.p.alloc (Nat.le_refl _) (.cells #[] 59)).alloc (by simp) (.cells #[.int .i64 ns, .int .i64 c, .bool true] 59)).drew
      have BAC : ∀ wB, (((w1.alloc (.cells #[] 59)).alloc (.cells #[.int .i64 ns, .int .i64 c, .bool true] 59)).drew).grownBy wB (some w1.heap.size) → Below w1.heap.size w1 wB := fun wB hgB => hbAC.drew.trans (below_own ownAC hgB (Nat.le_refl _) hbAC.drew.size)
      have LAC : ∀ wB, (((w1.alloc (.cells #[] 59)).alloc (.cells #[.int .i64 ns, .int .i64 c, .bool true] 59)).drew).grownBy wB (some w1.heap.size) → Reads wB wB.heap.size 3 (some ⟨w1.heap.size + 1, 0, none⟩) 1 1 [.int .i64 ns, .int .i64 c, .bool true] := fun wB hgB => reads_blk (blk_ne lit1.drew hgB (by simp)) rfl rfl (by decide)
      have ownCA := own2.drew
      have rdCA := ((hh1.p.alloc (Nat.le_refl _) (.cells #[.int .i64 ns, .int .i64 c, .bool true] 59)).alloc (by simp) (.cells #[] 59)).drew
      have BCA : ∀ wB, (((w1.alloc (.cells #[.int .i64 ns, .int .i64 c, .bool true] 59)).alloc (.cells #[] 59)).drew).grownBy wB (some (w1.heap.size + 1)) → Below w1.heap.size w1 wB := fun wB hgB => hbCA.drew.trans (below_own ownCA hgB (Nat.le_refl _) hbCA.drew.size)
      have LCA : ∀ wB, (((w1.alloc (.cells #[.int .i64 ns, .int .i64 c, .bool true] 59)).alloc (.cells #[] 59)).drew).grownBy wB (some (w1.heap.size + 1)) → Reads wB wB.heap.size 3 (some ⟨w1.heap.size, 0, none⟩) 1 1 [.int .i64 ns, .int .i64 c, .bool true] := fun wB hgB => reads_blk (blk_ne lit2.drew hgB (by simp)) rfl rfl (by decide)
      go_cut [] from 34 to 46 (fun wx => ∃ (AD : Option Addr) (cD : Nat), Blk wx w.heap.size 26 #[.slice As ns cs, .slice AD (np + 1) cD, .slice Ai ni ci] ∧ Blk wx (w.heap.size + 1) 26 #[.slice none 0 0, .slice none 0 0, .slice none 0 0] ∧ wx.ownsRow w1.heap.size 59 3 (.slice AD (np + 1) cD) (np + 1) (P.flatMap scCells ++ [.int .i64 ns, .int .i64 c, .bool true]) ∧ Below w.heap.size w wx)
      case first =>
        go_region_law
          (first
          | (refine step_appG rfl _ _ _ (by rfl) tySc (by rfl) own1.drew (by rfl) ((hh1.p.alloc (Nat.le_refl _) _).drew) (scCells_one P) q1 q2 (by simp) ?_; intro vB wB ownB hgB; have hbB : Below w1.heap.size w1 wB := (keep_alloc (Below.refl _ _) _).drew.trans (below_own own1.drew hgB (Nat.le_refl _) (by simp)); have hbBC := keep_alloc hbB (.cells #[.int .i64 ns, .int .i64 c, .bool true] 59))
          | (refine step_appG rfl _ _ _ (by rfl) tySc (by rfl) ownAC (by rfl) rdAC (scCells_one P) q1 q2 hbAC.drew.size ?_; intro vB wB ownB hgB; have hbB : Below w1.heap.size w1 wB := BAC wB hgB; have litB := LAC wB hgB)
          | (refine step_appG rfl _ _ _ (by rfl) tySc (by rfl) ownCA (by rfl) rdCA (scCells_one P) q1 q2 hbCA.drew.size ?_; intro vB wB ownB hgB; have hbB : Below w1.heap.size w1 wB := BCA wB hgB; have litB := LCA wB hgB)
          | (refine step_app rfl _ _ _ (by rfl) tySc (by rfl) (ownB.alloc _) (by rfl) (Reads.freshAs wB #[.int .i64 ns, .int .i64 c, .bool true] 59 3 1 [.int .i64 ns, .int .i64 c, .bool true] rfl rfl (by decide)) (by simp [Value.oneCell']) q3 q4 (by have := hbB.size; simp; omega) ?_; intro vD wD ownD hD; have hbD : Below w1.heap.size w1 wD := (keep_alloc hbB _).trans hD; rw [Nat.zero_add, List.nil_append] at ownD; obtain ⟨AD, cD, rfl, -⟩ := Reads.own ownD; have t1 := L1 wD hbD; have ft := F0 wD hbD)
          | (refine step_app rfl _ _ _ (by rfl) tySc (by rfl) ownB (by rfl) litB (by simp [Value.oneCell']) q3 q4 (by have := hbB.size; omega) ?_; intro vD wD ownD hD; have hbD : Below w1.heap.size w1 wD := hbB.trans hD; rw [Nat.zero_add, List.nil_append] at ownD; obtain ⟨AD, cD, rfl, -⟩ := Reads.own ownD; have t1 := L1 wD hbD; have ft := F0 wD hbD)
          | fail)
        all_goals
          have T6 := (B1.below hbD).put1 (.slice AD (np + 1) cD)
          have R6 := (R1.below hbD).far (p := ⟨w.heap.size, 1, none⟩) (by show w.heap.size + 1 ≠ w.heap.size; omega) (.slice AD (np + 1) cD)
          have own6 := ownsRow_setCell_below ownD (a := ⟨w.heap.size, 1, none⟩) (by show w.heap.size < _; omega) (.slice AD (np + 1) cD)
          have hB6 := (hB1.trans (hbD.mono (by omega))).setCell (p := ⟨w.heap.size, 1, none⟩) (by show w.heap.size ≤ w.heap.size; omega) (.slice AD (np + 1) cD)
          go_wp2_with fail
          go_meet
          first
          | exact ⟨AD, cD, T6, R6, own6, hB6⟩
          | exact ⟨AD, cD, T6.drew, R6.drew, own6.drew, hB6.drew⟩
      case rest =>
        obtain ⟨AD, cD, T6, R6, own6, hB6⟩ := hcut
        clear L0 L1 F0
        have a0 := T6.cell 0 _ rfl
        have a1 := T6.cell 1 _ rfl
        have a2 := T6.cell 2 _ rfl
        have r0 := R6.cell 0 _ rfl
        have r1 := R6.cell 1 _ rfl
        have r2 := R6.cell 2 _ rfl
        have fr := R6.free
        have G := R6.put3 (.slice As ns cs) (.slice AD (np + 1) cD) (.slice Ai ni ci)
        have g0 := G.cell 0 _ rfl
        have g1 := G.cell 1 _ rfl
        have g2 := G.cell 2 _ rfl
        have hBF := keep_set3 hB6 (.slice As ns cs) (.slice AD (np + 1) cD) (.slice Ai ni ci)
        have own7 := own_put3 own6 (g := w.heap.size + 1) (by omega) (.slice As ns cs) (.slice AD (np + 1) cD) (.slice Ai ni ci)
        have hfl : P.flatMap scCells ++ [.int .i64 ns, .int .i64 c, .bool true] = (P ++ [(⟨ns, c, true⟩ : Sc)]).flatMap scCells := by rw [List.flatMap_append]; rfl
        rw [hfl] at own7
        have HO := Lib.hid (LRd.mk ((HHW.out.s.below hBF).more hBF.size) (reads_own own7) ((HHW.out.i.below hBF).more hBF.size))
        have HBF := Lib.hid hBF
        clear G R6 T6 own6 own7 hB6 hBF hfl
        go_wp2_with fail
        refine bodyPost_ret (v := .tuple #[locV As ns cs AD (np + 1) cD Ai ni ci, .int .i64 0]) (by simp [results, Try.results43, go_sem, g0, g1, g2]) rfl ?_
        have HRN := HR.out
        try dsimp only at HRN
        rw [HS.out] at HRN
        exact RetLR.mk' HRN HO.out HBF.out
    · go_upto_region 7 with fail
      have L1 : ∀ u, Below w1.heap.size w1 u → u.cell? ⟨w.heap.size, 1, none⟩ = some (.slice Ap np cp) := fun u hu => (B1.below hu).cell 1 _ rfl
      have L0 : ∀ u, Below w1.heap.size w1 u → u.cell? ⟨w.heap.size, 0, none⟩ = some (.slice As ns cs) := fun u hu => (B1.below hu).cell 0 _ rfl
      have own1 := (own_lit0 w1 59 3 w1.heap.size w1.heap.size (Nat.le_refl _) rfl)
      have own2 := (own_lit0 (w1.alloc (.cells #[.int .i64 ns, .int .i64 c, .bool false] 59)) 59 3 w1.heap.size (w1.heap.size + 1) (by simp) (by simp))
      have lit1 := (Blk.newAt (w1.alloc (.cells #[] 59)) #[.int .i64 ns, .int .i64 c, .bool false] 59 (w1.heap.size + 1) (by simp))
      have lit2 := (Blk.new w1 #[.int .i64 ns, .int .i64 c, .bool false] 59).alloc (.cells #[] 59)
      have q1 : 0 + np ≤ maxLen := by have := HNP.out; unfold maxLen; omega
      have q2 : (0 + np) * 24 ≤ 140737488355328 := by have := HNP.out; omega
      have q3 : 0 + np + 1 ≤ maxLen := by have := HNP.out; unfold maxLen; omega
      have q4 : (0 + np + 1) * 24 ≤ 140737488355328 := by have := HNP.out; omega
      clear b0 b1 b2 fr r0 r1 r2
      have hb0 := Below.refl w1.heap.size w1
      have hbA := keep_alloc (Below.refl w1.heap.size w1) (.cells #[] 59)
      have hbC := keep_alloc (Below.refl w1.heap.size w1) (.cells #[.int .i64 ns, .int .i64 c, .bool false] 59)
      have hbAC := keep_alloc hbA (.cells #[.int .i64 ns, .int .i64 c, .bool false] 59)
      have hbCA := keep_alloc hbC (.cells #[] 59)
      have F0 : ∀ u, Below w1.heap.size w1 u → ∀ i, u.frozen? ⟨w.heap.size, i, none⟩ = false := fun u hu => (B1.below hu).free
      have ownAC := (own1.alloc (.cells #[.int .i64 ns, .int .i64 c, .bool false] 59)).drew
      have rdAC := ((hh1.p.alloc (Nat.le_refl _) (.cells #[] 59)).alloc (by simp) (.cells #[.int .i64 ns, .int .i64 c, .bool false] 59)).drew
      have BAC : ∀ wB, (((w1.alloc (.cells #[] 59)).alloc (.cells #[.int .i64 ns, .int .i64 c, .bool false] 59)).drew).grownBy wB (some w1.heap.size) → Below w1.heap.size w1 wB := fun wB hgB => hbAC.drew.trans (below_own ownAC hgB (Nat.le_refl _) hbAC.drew.size)
      have LAC : ∀ wB, (((w1.alloc (.cells #[] 59)).alloc (.cells #[.int .i64 ns, .int .i64 c, .bool false] 59)).drew).grownBy wB (some w1.heap.size) → Reads wB wB.heap.size 3 (some ⟨w1.heap.size + 1, 0, none⟩) 1 1 [.int .i64 ns, .int .i64 c, .bool false] := fun wB hgB => reads_blk (blk_ne lit1.drew hgB (by simp)) rfl rfl (by decide)
      have ownCA := own2.drew
      have rdCA := ((hh1.p.alloc (Nat.le_refl _) (.cells #[.int .i64 ns, .int .i64 c, .bool false] 59)).alloc (by simp) (.cells #[] 59)).drew
      have BCA : ∀ wB, (((w1.alloc (.cells #[.int .i64 ns, .int .i64 c, .bool false] 59)).alloc (.cells #[] 59)).drew).grownBy wB (some (w1.heap.size + 1)) → Below w1.heap.size w1 wB := fun wB hgB => hbCA.drew.trans (below_own ownCA hgB (Nat.le_refl _) hbCA.drew.size)
      have LCA : ∀ wB, (((w1.alloc (.cells #[.int .i64 ns, .int .i64 c, .bool false] 59)).alloc (.cells #[] 59)).drew).grownBy wB (some (w1.heap.size + 1)) → Reads wB wB.heap.size 3 (some ⟨w1.heap.size, 0, none⟩) 1 1 [.int .i64 ns, .int .i64 c, .bool false] := fun wB hgB => reads_blk (blk_ne lit2.drew hgB (by simp)) rfl rfl (by decide)
      go_cut [] from 34 to 46 (fun wx => ∃ (AD : Option Addr) (cD : Nat), Blk wx w.heap.size 26 #[.slice As ns cs, .slice AD (np + 1) cD, .slice Ai ni ci] ∧ Blk wx (w.heap.size + 1) 26 #[.slice none 0 0, .slice none 0 0, .slice none 0 0] ∧ wx.ownsRow w1.heap.size 59 3 (.slice AD (np + 1) cD) (np + 1) (P.flatMap scCells ++ [.int .i64 ns, .int .i64 c, .bool false]) ∧ Below w.heap.size w wx)
      case first =>
        go_region_law
          (first
          | (refine step_appG rfl _ _ _ (by rfl) tySc (by rfl) own1.drew (by rfl) ((hh1.p.alloc (Nat.le_refl _) _).drew) (scCells_one P) q1 q2 (by simp) ?_; intro vB wB ownB hgB; have hbB : Below w1.heap.size w1 wB := (keep_alloc (Below.refl _ _) _).drew.trans (below_own own1.drew hgB (Nat.le_refl _) (by simp)); have hbBC := keep_alloc hbB (.cells #[.int .i64 ns, .int .i64 c, .bool false] 59))
          | (refine step_appG rfl _ _ _ (by rfl) tySc (by rfl) ownAC (by rfl) rdAC (scCells_one P) q1 q2 hbAC.drew.size ?_; intro vB wB ownB hgB; have hbB : Below w1.heap.size w1 wB := BAC wB hgB; have litB := LAC wB hgB)
          | (refine step_appG rfl _ _ _ (by rfl) tySc (by rfl) ownCA (by rfl) rdCA (scCells_one P) q1 q2 hbCA.drew.size ?_; intro vB wB ownB hgB; have hbB : Below w1.heap.size w1 wB := BCA wB hgB; have litB := LCA wB hgB)
          | (refine step_app rfl _ _ _ (by rfl) tySc (by rfl) (ownB.alloc _) (by rfl) (Reads.freshAs wB #[.int .i64 ns, .int .i64 c, .bool false] 59 3 1 [.int .i64 ns, .int .i64 c, .bool false] rfl rfl (by decide)) (by simp [Value.oneCell']) q3 q4 (by have := hbB.size; simp; omega) ?_; intro vD wD ownD hD; have hbD : Below w1.heap.size w1 wD := (keep_alloc hbB _).trans hD; rw [Nat.zero_add, List.nil_append] at ownD; obtain ⟨AD, cD, rfl, -⟩ := Reads.own ownD; have t1 := L1 wD hbD; have ft := F0 wD hbD)
          | (refine step_app rfl _ _ _ (by rfl) tySc (by rfl) ownB (by rfl) litB (by simp [Value.oneCell']) q3 q4 (by have := hbB.size; omega) ?_; intro vD wD ownD hD; have hbD : Below w1.heap.size w1 wD := hbB.trans hD; rw [Nat.zero_add, List.nil_append] at ownD; obtain ⟨AD, cD, rfl, -⟩ := Reads.own ownD; have t1 := L1 wD hbD; have ft := F0 wD hbD)
          | fail)
        all_goals
          have T6 := (B1.below hbD).put1 (.slice AD (np + 1) cD)
          have R6 := (R1.below hbD).far (p := ⟨w.heap.size, 1, none⟩) (by show w.heap.size + 1 ≠ w.heap.size; omega) (.slice AD (np + 1) cD)
          have own6 := ownsRow_setCell_below ownD (a := ⟨w.heap.size, 1, none⟩) (by show w.heap.size < _; omega) (.slice AD (np + 1) cD)
          have hB6 := (hB1.trans (hbD.mono (by omega))).setCell (p := ⟨w.heap.size, 1, none⟩) (by show w.heap.size ≤ w.heap.size; omega) (.slice AD (np + 1) cD)
          go_wp2_with fail
          go_meet
          first
          | exact ⟨AD, cD, T6, R6, own6, hB6⟩
          | exact ⟨AD, cD, T6.drew, R6.drew, own6.drew, hB6.drew⟩
      case rest =>
        obtain ⟨AD, cD, T6, R6, own6, hB6⟩ := hcut
        clear L0 L1 F0
        have a0 := T6.cell 0 _ rfl
        have a1 := T6.cell 1 _ rfl
        have a2 := T6.cell 2 _ rfl
        have r0 := R6.cell 0 _ rfl
        have r1 := R6.cell 1 _ rfl
        have r2 := R6.cell 2 _ rfl
        have fr := R6.free
        have G := R6.put3 (.slice As ns cs) (.slice AD (np + 1) cD) (.slice Ai ni ci)
        have g0 := G.cell 0 _ rfl
        have g1 := G.cell 1 _ rfl
        have g2 := G.cell 2 _ rfl
        have hBF := keep_set3 hB6 (.slice As ns cs) (.slice AD (np + 1) cD) (.slice Ai ni ci)
        have own7 := own_put3 own6 (g := w.heap.size + 1) (by omega) (.slice As ns cs) (.slice AD (np + 1) cD) (.slice Ai ni ci)
        have hfl : P.flatMap scCells ++ [.int .i64 ns, .int .i64 c, .bool false] = (P ++ [(⟨ns, c, false⟩ : Sc)]).flatMap scCells := by rw [List.flatMap_append]; rfl
        rw [hfl] at own7
        have HO := Lib.hid (LRd.mk ((HHW.out.s.below hBF).more hBF.size) (reads_own own7) ((HHW.out.i.below hBF).more hBF.size))
        have HBF := Lib.hid hBF
        clear G R6 T6 own6 own7 hB6 hBF hfl
        go_wp2_with fail
        refine bodyPost_ret (v := .tuple #[locV As ns cs AD (np + 1) cD Ai ni ci, .int .i64 0]) (by simp [results, Try.results43, go_sem, g0, g1, g2]) rfl ?_
        have HRN := HR.out
        try dsimp only at HRN
        rw [HS.out] at HRN
        exact RetLR.mk' HRN HO.out HBF.out
end Go.Proofs.Ytmcdhpbkhchpeaa

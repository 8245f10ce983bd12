/- The walk of SlotsLife. Printed by mk_slotslife.py. -/
import Derived.Test.YtfcghhpbjnlldaaSlotsLife2
import Derived.Test.YtfcghhpbjnlldaaPair
namespace Go.Proofs.Ytfcghhpbjnlldaa
open Go.ChangeShapes Go.WideShapes Go.RowKit Words

set_option linter.unusedSimpArgs false in
set_option maxRecDepth 100000 in
set_option maxHeartbeats 20000000 in
theorem walkSlotsLife {H : Type} {enc : TypeId × Value → H} (W : World) (base : Nat) {v0 : Value} {d0 : DataW H} {p0 : List MemPlace}
    (o0 : Value.okWide Try.prog W .any base 37 v0) (h0 : DataW.Trod enc Try.prog W 0 (fun _ => true) true 37 v0 d0 p0) :
    Calls Try.prog 5 #[v0] W fun e w' => e = .returned (.bool true) ∧ Below W.heap.size W w' := by
  obtain ⟨A0, n, c0, acts, rfl, ha, hok⟩ := open_deeds o0 h0
  clear h0 o0
  have st0 : St W (W.alloc (.cells #[.slice none 0 0] 24)) [] [] none 0 none 0 none 0 none 0 :=
    ⟨Blk.new _ _ _, World.ownsRow_nil _ _ _ _, World.ownsRow_nil _ _ _ _, World.ownsRow_nil _ _ _ _, World.ownsRow_nil _ _ _ _, tab_alloc W none 0 0, by simp⟩
  have hn := ha.length deedCells_len (by omega)
  have hcap : n ≤ 9223372036854775807 := by have h1 := ha.cap; have h2 := ha.le; unfold maxLen at h1; omega
  have HOK := Lib.hid hok
  have HN := Lib.hid hn
  clear hok hn
  go_enter Try.func5, Try.ntmps5
  go_wp2_with fail
  go_loopw [4, 5, 6, 7] (fun x4 x5 x6 x7 wq => ∃ (i : Nat) (l : List Ent) (is : List Iss) (A : Option Addr) (c : Nat) (A4 : Option Addr) (c4 : Nat) (A5 : Option Addr) (c5 : Nat) (A6 : Option Addr) (c6 : Nat),
    i ≤ n ∧ i ≤ 120 ∧ is.length ≤ i ∧ Life l is ∧ x4 = .slice A4 is.length c4 ∧ x5 = .slice A5 is.length c5 ∧ x6 = .slice A6 is.length c6 ∧ x7 = .int .i64 i ∧ St W wq l is A c A4 c4 A5 c5 A6 c6) (fun _ _ _ x _ => n - (intOf x).toNat)
  case atStart => exact ⟨0, [], [], none, 0, none, 0, none, 0, none, 0, by omega, by omega, by simp, Life.start, rfl, rfl, rfl, rfl, st0⟩
  case round =>
    clear st0
    obtain ⟨i, l, is, A, c, A4, c4, A5, c5, A6, c6, hi, hi2, hil, hL, rfl, rfl, rfl, rfl, st⟩ := hrel
    by_cases hend : i < n ∧ i < 120
    · obtain ⟨hin, hi120⟩ := hend
      have d1 : decide ((i : Int) < (n : Int)) = true := by simp; omega
      have d2 : decide ((i : Int) < 120) = true := by simp; omega
      obtain ⟨b0, off0, x, rfl, hb0, hx, hc⟩ := (show Reads wr W.heap.size 3 A0 n c0 (acts.flatMap deedCells) from ha.below st.bel).elem deedCells_len (by omega) hin
      have x0 := hc 0 _ rfl
      have x1 := hc 1 _ rfl
      have x2 := hc 2 _ rfl
      rw [Nat.add_zero] at x0
      have hi0 : (0 : Int) ≤ (i : Int) := by omega
      have hi1 : (i : Int) < (n : Int) := by omega
      have hxk := HOK.out x (List.mem_of_getElem? hx)
      have HX := Lib.hid hx
      clear hc hx
      go_upto_if 34 with fail
      go_cut [9] from 35 to 45 (fun s9 wx => ∃ k : Nat, s9 = .int .i64 k ∧ (0 < is.length → k < is.length) ∧ wr = wx)
      case first =>
        by_cases hN : 0 < is.length
        · obtain ⟨k, hk, hk2⟩ := tmod_wrap (a := x.which) (b := (is.length : Int)) (by omega)
          obtain ⟨hq0, hq1⟩ := tmod_range x.which (is.length : Int) (by omega)
          have e0 : decide ((0 : Int) < (is.length : Int)) = true := decide_eq_true (by omega)
          have e00 : ((is.length : Int) == 0) = false := beq_false_of_ne (by omega)
          have e1 : IntKind.i64.wrap (x.which.tmod (is.length : Int)) = x.which.tmod (is.length : Int) := IntWalk.i64_in _ (by omega)
          have e2 : IntKind.i64.wrap (x.which.tmod (is.length : Int) + (is.length : Int)) = x.which.tmod (is.length : Int) + (is.length : Int) := IntWalk.i64_in _ (by omega)
          have e3 : IntKind.i64.wrap (k : Int) = (k : Int) := IntWalk.i64_in _ (by omega)
          clear hq0 hq1
          go_wp2_with fail
          go_meet
          exact ⟨k, by simp [hk, e3], fun _ => by omega, rfl⟩
        · have e0 : decide ((0 : Int) < (is.length : Int)) = false := decide_eq_false (by omega)
          go_wp2_with fail
          go_meet
          exact ⟨0, rfl, fun h => absurd h hN, rfl⟩
      case rest =>
        obtain ⟨k, rfl, hk, rfl⟩ := hcut
        obtain ⟨r, hr, hr2⟩ := tmod_wrap (a := x.kind) (b := 4) (by omega)
        obtain ⟨hq0, hq1⟩ := tmod_range x.kind 4 (by omega)
        have e1 : IntKind.i64.wrap (x.kind.tmod 4) = x.kind.tmod 4 := IntWalk.i64_in _ (by omega)
        have e2 : IntKind.i64.wrap (x.kind.tmod 4 + 4) = x.kind.tmod 4 + 4 := IntWalk.i64_in _ (by omega)
        have e3 : IntKind.i64.wrap (r : Int) = (r : Int) := IntWalk.i64_in _ (by omega)
        clear hq0 hq1
        go_upto_block 2 with fail
        clear e1 e2 e3 hr x0 x1
        go_cut [4, 5, 6] from 10 to 231 (fun s4 s5 s6 wx => ∃ (l : List Ent) (is : List Iss) (A : Option Addr) (c : Nat) (A4 : Option Addr) (c4 : Nat) (A5 : Option Addr) (c5 : Nat) (A6 : Option Addr) (c6 : Nat),
          is.length ≤ i + 1 ∧ Life l is ∧ s4 = .slice A4 is.length c4 ∧ s5 = .slice A5 is.length c5 ∧ s6 = .slice A6 is.length c6 ∧ St W wx l is A c A4 c4 A5 c5 A6 c6)
        case first =>
          have hll : l.length ≤ 1000000 := by have := ((valid_iff l).1 hL.valid).1; omega
          have L0 : ∀ w', Below wr.heap.size wr w' → w'.cell? ⟨W.heap.size, 0, none⟩ = some (.slice A l.length c) := fun w' hu => (st.belowU hu).cell
          have L2 : ∀ w', Below wr.heap.size wr w' → w'.cell? ⟨b0, off0 + i * 3 + 2, none⟩ = some (.int .u64 (U x.ref)) := fun w' hu => keep_cell hu x2
          go_upto_if 87 with fail
          go_cut [87] from 88 to 89 (fun s87 wx => s87 = .bool (decide (r < 2)) ∧ wr = wx)
          case first =>
            match r, hr2 with
            | 0, _ => (go_wp2_with fail; go_meet; exact ⟨rfl, rfl⟩)
            | 1, _ => (go_wp2_with fail; go_meet; exact ⟨rfl, rfl⟩)
            | 2, _ => (go_wp2_with fail; go_meet; exact ⟨rfl, rfl⟩)
            | 3, _ => (go_wp2_with fail; go_meet; exact ⟨rfl, rfl⟩)
          obtain ⟨rfl, rfl⟩ := hcut
          by_cases hr01 : r < 2
          · have er : decide (r < 2) = true := decide_eq_true hr01
            go_upto_region 19 with fail
            go_cut [10, 11, 12, 13] from 87 to 101 (fun s10 s11 s12 s13 wx => ∃ (dN : Nat) (AN : Option Addr) (cN : Nat), s10 = .pointer (some ⟨dN, 0, none⟩) ∧ s11 = .int .i64 (newW l x.ref).2.1 ∧ s12 = .int .i64 (newW l x.ref).2.2.1 ∧ s13 = .int .i64 (newW l x.ref).2.2.2 ∧
              wr.heap.size ≤ dN ∧ St W wx l is A c A4 c4 A5 c5 A6 c6 ∧ Blk wx dN 24 #[.slice AN (newW l x.ref).1.length cN] ∧ wx.ownsRow (W.heap.size + 1) 30 3 (.slice AN (newW l x.ref).1.length cN) (newW l x.ref).1.length ((newW l x.ref).1.flatMap entCells))
            case first => as_aux_lemma =>
              obtain ⟨rr, hrr⟩ : ∃ rr, newW l x.ref = rr := ⟨_, rfl⟩
              have HE := Lib.hid hrr
              clear hrr
              go_region_held3 (fun w' => Below wr.heap.size wr w') (first | assumption | exact (Below.refl _ _).drew | exact keep_alloc (by first | assumption | exact Below.refl _ _ | exact (Below.refl _ _).drew) _ | exact (keep_alloc (Below.refl _ _) _).drew | exact keep_set (by first | assumption | exact keep_alloc (by assumption) _) (by first | exact Nat.le_refl _ | (show wr.heap.size ≤ wN.heap.size; exact hbN.size)) _)
                (first | (go_at_call 7; refine (new_own A _ c l x.ref _ (st.belowU (by assumption)).reads hll).mono ?_; rw [HE.out]; rintro e wN ⟨AN, cN, rfl, hoN, hbN0⟩; have hbN := keep_below hbN0 (by assumption); try (have nN := (Blk.new wr #[.slice none 0 0] 24).drew.below hbN0; have nNc := nN.cell 0 _ rfl; have nNf := nN.free)))
              all_goals
                go_wp2_with fail
                go_meet
                rw [HE.out]
                refine ⟨_, AN, cN, rfl, rfl, rfl, rfl, ?_, ?_, ?_, ?_⟩
                · first | exact Nat.le_refl _ | exact hbN.size
                · exact st.belowU (by first | exact keep_alloc hbN _ | exact keep_set hbN (Nat.le_refl _) _)
                · first | exact Blk.new _ _ _ | exact nN.set 0 _
                · first
                  | exact own_keep (own_base hoN (by show W.heap.size + 1 ≤ wr.heap.size; have := st.sz; omega)) (keep_alloc (Below.refl _ _) _)
                  | exact own_base (ownsRow_setCell_below hoN (by show wr.heap.size < (wr.alloc _).heap.size; simp) _) (by show W.heap.size + 1 ≤ (wr.alloc _).heap.size; have := st.sz; simp; omega)
            case rest =>
              obtain ⟨dN, AN, cN, rfl, rfl, rfl, rfl, hdN, stX, nN, hoN⟩ := hcut
              clear L0 L2
              rcases hL.new x.ref with ⟨l', k', g', hnew, hl', hL'⟩ | hnew
              · as_aux_lemma =>
                rw [hnew] at nN hoN ⊢
                dsimp only at nN hoN ⊢
                have qT := stX.cell
                have fT := stX.free
                have nT := nN.cell 0 _ rfl
                have stP := stX.put hoN
                have hLl := Lib.hid hL'
                have x3 := (stP.bel.cell (p := ⟨b0, off0 + i * 3 + 2, none⟩) hb0).trans ((st.bel.cell (p := ⟨b0, off0 + i * 3 + 2, none⟩) hb0).symm.trans x2)
                clear hnew hL'
                go_upto_region 24 with fail
                obtain ⟨w3, hw3⟩ : ∃ w3, wc.setCell ⟨W.heap.size, 0, none⟩ (.slice AN l'.length cN) = w3 := ⟨_, rfl⟩
                rw [hw3] at stP x3 ⊢
                clear hw3 qT fT nT nN hoN stX
                have L3 : ∀ w', Below (W.heap.size + 1) w3 w' → w'.cell? ⟨b0, off0 + i * 3 + 2, none⟩ = some (.int .u64 (U x.ref)) := fun w' hu => (hu.cell (p := ⟨b0, off0 + i * 3 + 2, none⟩) (by show b0 < W.heap.size + 1; omega)).trans x3
                have q1 : is.length + 1 ≤ maxLen := by unfold maxLen; omega
                go_region_held3 (fun w' => Below (W.heap.size + 1) w3 w') (first | assumption | exact (Below.refl _ _).drew | exact keep_allocB (by first | assumption | exact (Below.refl _ _).drew) stP.sz _)
                  (first
                  | (refine step_appG rfl _ _ _ (by rfl) tyIss (by rfl) (show Rw _ (W.heap.size + 1) (.slice AN l'.length cN) l'.length (l'.flatMap entCells) (.slice A4 is.length c4) is.length (is.flatMap issCells) (.slice A5 is.length c5) is.length (is.flatMap refCells) (.slice A6 is.length c6) is.length (is.flatMap goneCells) from by repeat (first | with_reducible refine Rw.alloc ?_ _ | with_reducible refine Rw.drew ?_ | exact stP.rw)).r4 (by rfl) (show Reads _ _ _ _ 1 1 [.int .i64 (k' : Int), .int .i64 g'] from reads_blk (e := 42) (cs := #[.int .i64 (k' : Int), .int .i64 g']) (by repeat (first | (with_reducible refine Blk.newAt _ _ _ _ ?_; simp; done) | with_reducible refine Blk.alloc ?_ _ | with_reducible refine Blk.drew ?_ | (with_reducible refine hkB _ _ _ ?_ ?_; rotate_left; (first | omega | (simp; omega))) | (with_reducible refine hkA _ _ _ ?_ ?_; rotate_left; (first | omega | (simp; omega))))) rfl rfl (by decide)) (by simp [Value.oneCell']) q1 (by omega) (Nat.le_trans stP.sz (Below.size (B := W.heap.size + 1) (w := w3) (by first | with_reducible assumption | exact (Below.refl _ _).drew))) ?_; intro vA wA ownA hgA; obtain ⟨AA, cA, rfl, -⟩ := Reads.own ownA; have hbA : Below (W.heap.size + 1) w3 wA := Below.trans (by first | with_reducible assumption | exact (Below.refl _ _).drew) (below_own (show Rw _ (W.heap.size + 1) (.slice AN l'.length cN) l'.length (l'.flatMap entCells) (.slice A4 is.length c4) is.length (is.flatMap issCells) (.slice A5 is.length c5) is.length (is.flatMap refCells) (.slice A6 is.length c6) is.length (is.flatMap goneCells) from by repeat (first | with_reducible refine Rw.alloc ?_ _ | with_reducible refine Rw.drew ?_ | exact stP.rw)).r4 hgA (Nat.le_refl _) (Nat.le_trans stP.sz (Below.size (B := W.heap.size + 1) (w := w3) (by first | with_reducible assumption | exact (Below.refl _ _).drew)))); have hzA := hbA.size; have RA := (show Rw _ (W.heap.size + 1) (.slice AN l'.length cN) l'.length (l'.flatMap entCells) (.slice A4 is.length c4) is.length (is.flatMap issCells) (.slice A5 is.length c5) is.length (is.flatMap refCells) (.slice A6 is.length c6) is.length (is.flatMap goneCells) from by repeat (first | with_reducible refine Rw.alloc ?_ _ | with_reducible refine Rw.drew ?_ | exact stP.rw)).app4 hgA ownA; have hkA : ∀ g t cs, Blk _ g t cs → w3.heap.size ≤ g → Blk wA g t cs := fun g t cs h hg => blk_ne h hgA (fun e => by have := (stP.iss.lt g e.symm).2; omega))
                  | (refine step_appG rfl _ _ _ (by rfl) tyWords (by rfl) (show Rw _ (W.heap.size + 1) (.slice AN l'.length cN) l'.length (l'.flatMap entCells) (.slice AA (is.length + 1) cA) (is.length + 1) (is.flatMap issCells ++ [.int .i64 (k' : Int), .int .i64 g']) (.slice A5 is.length c5) is.length (is.flatMap refCells) (.slice A6 is.length c6) is.length (is.flatMap goneCells) from by repeat (first | with_reducible refine Rw.alloc ?_ _ | with_reducible refine Rw.drew ?_ | exact RA)).r5 (by rfl) (show Reads _ _ _ _ 1 1 [.int .u64 (U x.ref)] from reads_blk (e := 28) (cs := #[.int .u64 (U x.ref)]) (by repeat (first | (with_reducible refine Blk.newAt _ _ _ _ ?_; simp; done) | with_reducible refine Blk.alloc ?_ _ | with_reducible refine Blk.drew ?_ | (with_reducible refine hkB _ _ _ ?_ ?_; rotate_left; (first | omega | (simp; omega))) | (with_reducible refine hkA _ _ _ ?_ ?_; rotate_left; (first | omega | (simp; omega))))) rfl rfl (by decide)) (by simp [Value.oneCell']) q1 (by omega) (Nat.le_trans stP.sz (Below.size (B := W.heap.size + 1) (w := w3) (by first | with_reducible assumption | exact (Below.refl _ _).drew))) ?_; intro vB wB ownB hgB; obtain ⟨AB, cB, rfl, -⟩ := Reads.own ownB; have hbB : Below (W.heap.size + 1) w3 wB := Below.trans (by first | with_reducible assumption | exact (Below.refl _ _).drew) (below_own (show Rw _ (W.heap.size + 1) (.slice AN l'.length cN) l'.length (l'.flatMap entCells) (.slice AA (is.length + 1) cA) (is.length + 1) (is.flatMap issCells ++ [.int .i64 (k' : Int), .int .i64 g']) (.slice A5 is.length c5) is.length (is.flatMap refCells) (.slice A6 is.length c6) is.length (is.flatMap goneCells) from by repeat (first | with_reducible refine Rw.alloc ?_ _ | with_reducible refine Rw.drew ?_ | exact RA)).r5 hgB (Nat.le_refl _) (Nat.le_trans stP.sz (Below.size (B := W.heap.size + 1) (w := w3) (by first | with_reducible assumption | exact (Below.refl _ _).drew)))); have hzB := hbB.size; have RB := (show Rw _ (W.heap.size + 1) (.slice AN l'.length cN) l'.length (l'.flatMap entCells) (.slice AA (is.length + 1) cA) (is.length + 1) (is.flatMap issCells ++ [.int .i64 (k' : Int), .int .i64 g']) (.slice A5 is.length c5) is.length (is.flatMap refCells) (.slice A6 is.length c6) is.length (is.flatMap goneCells) from by repeat (first | with_reducible refine Rw.alloc ?_ _ | with_reducible refine Rw.drew ?_ | exact RA)).app5 hgB ownB; have hkB : ∀ g t cs, Blk _ g t cs → w3.heap.size ≤ g → Blk wB g t cs := fun g t cs h hg => blk_ne h hgB (fun e => by have := (stP.ref.lt g e.symm).2; omega))
                  | (refine step_appG rfl _ _ _ (by rfl) tyBools (by rfl) (show Rw _ (W.heap.size + 1) (.slice AN l'.length cN) l'.length (l'.flatMap entCells) (.slice AA (is.length + 1) cA) (is.length + 1) (is.flatMap issCells ++ [.int .i64 (k' : Int), .int .i64 g']) (.slice AB (is.length + 1) cB) (is.length + 1) (is.flatMap refCells ++ [.int .u64 (U x.ref)]) (.slice A6 is.length c6) is.length (is.flatMap goneCells) from by repeat (first | with_reducible refine Rw.alloc ?_ _ | with_reducible refine Rw.drew ?_ | exact RB)).r6 (by rfl) (show Reads _ _ _ _ 1 1 [.bool false] from reads_blk (e := 4) (cs := #[.bool false]) (by repeat (first | (with_reducible refine Blk.newAt _ _ _ _ ?_; simp; done) | with_reducible refine Blk.alloc ?_ _ | with_reducible refine Blk.drew ?_ | (with_reducible refine hkB _ _ _ ?_ ?_; rotate_left; (first | omega | (simp; omega))) | (with_reducible refine hkA _ _ _ ?_ ?_; rotate_left; (first | omega | (simp; omega))))) rfl rfl (by decide)) (by simp [Value.oneCell']) q1 (by omega) (Nat.le_trans stP.sz (Below.size (B := W.heap.size + 1) (w := w3) (by first | with_reducible assumption | exact (Below.refl _ _).drew))) ?_; intro vC wC ownC hgC; obtain ⟨AC, cC, rfl, -⟩ := Reads.own ownC; have hbC : Below (W.heap.size + 1) w3 wC := Below.trans (by first | with_reducible assumption | exact (Below.refl _ _).drew) (below_own (show Rw _ (W.heap.size + 1) (.slice AN l'.length cN) l'.length (l'.flatMap entCells) (.slice AA (is.length + 1) cA) (is.length + 1) (is.flatMap issCells ++ [.int .i64 (k' : Int), .int .i64 g']) (.slice AB (is.length + 1) cB) (is.length + 1) (is.flatMap refCells ++ [.int .u64 (U x.ref)]) (.slice A6 is.length c6) is.length (is.flatMap goneCells) from by repeat (first | with_reducible refine Rw.alloc ?_ _ | with_reducible refine Rw.drew ?_ | exact RB)).r6 hgC (Nat.le_refl _) (Nat.le_trans stP.sz (Below.size (B := W.heap.size + 1) (w := w3) (by first | with_reducible assumption | exact (Below.refl _ _).drew)))); have hzC := hbC.size; have RC := (show Rw _ (W.heap.size + 1) (.slice AN l'.length cN) l'.length (l'.flatMap entCells) (.slice AA (is.length + 1) cA) (is.length + 1) (is.flatMap issCells ++ [.int .i64 (k' : Int), .int .i64 g']) (.slice AB (is.length + 1) cB) (is.length + 1) (is.flatMap refCells ++ [.int .u64 (U x.ref)]) (.slice A6 is.length c6) is.length (is.flatMap goneCells) from by repeat (first | with_reducible refine Rw.alloc ?_ _ | with_reducible refine Rw.drew ?_ | exact RB)).app6 hgC ownC; have hkC : ∀ g t cs, Blk _ g t cs → w3.heap.size ≤ g → Blk wC g t cs := fun g t cs h hg => blk_ne h hgC (fun e => by have := (stP.gone.lt g e.symm).2; omega)))
                all_goals as_aux_lemma =>
                  go_wp2_with fail
                  go_meet
                  exact ⟨l', is ++ [⟨k', g', x.ref, false⟩], AN, cN, AA, cA, AB, cB, AC, cC, by simp; omega, hLl.out, by simp, by simp, by simp, stP.grow hbC ⟨k', g', x.ref, false⟩ RC⟩
              · rw [hnew]
                dsimp only
                clear hnew nN hoN
                go_wp2_with fail
                go_roundw
                case rel => exact ⟨i + 1, l, is, A, c, A4, c4, A5, c5, A6, c6, by omega, by omega, by omega, hL, rfl, rfl, rfl, by go_num, stX⟩
                case measure => simp [intOf]; omega
          have er : decide (r < 2) = false := decide_eq_false hr01
          have hr23 : r = 2 ∨ r = 3 := by omega
          rcases hr23 with rfl | rfl
          · by_cases hN : is.length = 0
            · have e0 : ((is.length : Int) == 0) = true := by rw [hN]; rfl
              have stX := st
              clear L0 L2
              go_wp2_with fail
              go_roundw
              case rel => exact ⟨i + 1, l, is, A, c, A4, c4, A5, c5, A6, c6, by omega, by omega, by omega, hL, rfl, rfl, rfl, by go_num, stX⟩
              case measure => simp [intOf]; omega
            have hkl := hk (by omega)
            obtain ⟨q, hq⟩ : ∃ q, is[k]? = some q := ⟨_, List.getElem?_eq_getElem hkl⟩
            obtain ⟨g4, rfl⟩ := own_some st.iss (by omega)
            have M0 : ∀ w', Below wr.heap.size wr w' → w'.cell? ⟨g4, k * 2, none⟩ = some (.int .i64 q.at_) := fun w' hu => ((st.belowU hu).iss.cellAt (k * 2) (by omega)).trans (flat_at issCells 2 issCells_len is k 0 (by omega) q hq)
            have M1 : ∀ w', Below wr.heap.size wr w' → w'.cell? ⟨g4, k * 2 + 1, none⟩ = some (.int .i64 q.gen) := fun w' hu => ((st.belowU hu).iss.cellAt (k * 2 + 1) (by omega)).trans (flat_at issCells 2 issCells_len is k 1 (by omega) q hq)
            have k0 : (0 : Int) ≤ (k : Int) := by omega
            have k1 : (k : Int) < (is.length : Int) := by omega
            have e0 : ((is.length : Int) == 0) = false := beq_false_of_ne (by omega)
            obtain ⟨g6, rfl⟩ := own_some st.gone (by omega)
            go_upto_region 27 with fail
            go_cut [14, 15] from 124 to 142 (fun s14 s15 wx => ∃ (dN : Nat) (AN : Option Addr) (cN : Nat), s14 = .pointer (some ⟨dN, 0, none⟩) ∧ s15 = .int .i64 (delW l q.at_ q.gen).2 ∧
              wr.heap.size ≤ dN ∧ St W wx l is A c (some ⟨g4, 0, none⟩) c4 A5 c5 (some ⟨g6, 0, none⟩) c6 ∧ Blk wx dN 24 #[.slice AN (delW l q.at_ q.gen).1.length cN] ∧ wx.ownsRow (W.heap.size + 1) 30 3 (.slice AN (delW l q.at_ q.gen).1.length cN) (delW l q.at_ q.gen).1.length ((delW l q.at_ q.gen).1.flatMap entCells))
            case first => as_aux_lemma =>
              obtain ⟨rr, hrr⟩ : ∃ rr, delW l q.at_ q.gen = rr := ⟨_, rfl⟩
              have HE := Lib.hid hrr
              clear hrr
              go_region_held3 (fun w' => Below wr.heap.size wr w') (first | assumption | exact (Below.refl _ _).drew | exact keep_alloc (by first | assumption | exact Below.refl _ _ | exact (Below.refl _ _).drew) _ | exact (keep_alloc (Below.refl _ _) _).drew | exact keep_set (by first | assumption | exact keep_alloc (by assumption) _) (by first | exact Nat.le_refl _ | (show wr.heap.size ≤ wN.heap.size; exact hbN.size)) _)
                (first | (go_at_call 15; refine (delete_own A _ c l q.at_ q.gen _ (st.belowU (by assumption)).reads hll).mono ?_; rw [HE.out]; rintro e wN ⟨AN, cN, rfl, hoN, hbN0⟩; have hbN := keep_below hbN0 (by assumption); try (have nN := (Blk.new wr #[.slice none 0 0] 24).drew.below hbN0; have nNc := nN.cell 0 _ rfl; have nNf := nN.free)))
              all_goals
                go_wp2_with fail
                go_meet
                rw [HE.out]
                refine ⟨_, AN, cN, rfl, rfl, ?_, ?_, ?_, ?_⟩
                · first | exact Nat.le_refl _ | exact hbN.size
                · exact st.belowU (by first | exact keep_alloc hbN _ | exact keep_set hbN (Nat.le_refl _) _)
                · first | exact Blk.new _ _ _ | exact nN.set 0 _
                · first
                  | exact own_keep (own_base hoN (by show W.heap.size + 1 ≤ wr.heap.size; have := st.sz; omega)) (keep_alloc (Below.refl _ _) _)
                  | exact own_base (ownsRow_setCell_below hoN (by show wr.heap.size < (wr.alloc _).heap.size; simp) _) (by show W.heap.size + 1 ≤ (wr.alloc _).heap.size; have := st.sz; simp; omega)
            case rest => as_aux_lemma =>
              obtain ⟨dN, AN, cN, rfl, rfl, hdN, stX, nN, hoN⟩ := hcut
              clear L0 L2 M0 M1
              have qT := stX.cell
              have fT := stX.free
              have e6 := flat_at goneCells 1 goneCells_len is k 0 (by omega) q hq
              rw [Nat.mul_one, Nat.add_zero] at e6
              have c6k : wc.cell? ⟨g6, k, none⟩ = some (.bool q.gone) := (stX.gone.cellAt k (by omega)).trans e6
              have f6k := stX.gone.frozenAt k
              clear e6
              cases hgq : q.gone with
              | false =>
                obtain ⟨hdel, hL'⟩ := hL.del hq hgq
                obtain ⟨L, hLd⟩ : ∃ L, l.set q.at_ ⟨q.gen, 0#64, false⟩ = L := ⟨_, rfl⟩
                rw [hLd] at hdel hL'
                clear hLd
                rw [hdel] at nN hoN ⊢
                dsimp only at nN hoN ⊢
                rw [hgq] at c6k
                have nT := nN.cell 0 _ rfl
                have stP := (stX.put hoN).setGone hq true
                have hLl := Lib.hid hL'
                have c6p := cell_far (p := ⟨W.heap.size, 0, none⟩) (b := g6) (by show W.heap.size ≠ g6; have := (stX.gone.lt g6 rfl).1; omega) (u := .slice AN L.length cN) c6k
                clear hdel hL' nN hoN
                go_wp2_with fail
                go_meet
                exact ⟨_, _, AN, cN, _, c4, _, c5, _, c6, by rw [List.length_set]; omega, hLl.out, by rw [List.length_set], by rw [List.length_set], by rw [List.length_set], stP⟩
              | true =>
                have hdel := hL.gone_del hq hgq
                rw [hdel]
                dsimp only
                rw [hgq] at c6k
                clear hdel nN hoN
                go_wp2_with fail
                go_meet
                exact ⟨l, is, A, c, _, c4, _, c5, _, c6, by omega, hL, rfl, rfl, rfl, stX⟩
          · by_cases hN : is.length = 0
            · have e0 : ((is.length : Int) == 0) = true := by rw [hN]; rfl
              have stX := st
              clear L0 L2
              go_wp2_with fail
              go_roundw
              case rel => exact ⟨i + 1, l, is, A, c, A4, c4, A5, c5, A6, c6, by omega, by omega, by omega, hL, rfl, rfl, rfl, by go_num, stX⟩
              case measure => simp [intOf]; omega
            have hkl := hk (by omega)
            obtain ⟨q, hq⟩ : ∃ q, is[k]? = some q := ⟨_, List.getElem?_eq_getElem hkl⟩
            obtain ⟨g4, rfl⟩ := own_some st.iss (by omega)
            have M0 : ∀ w', Below wr.heap.size wr w' → w'.cell? ⟨g4, k * 2, none⟩ = some (.int .i64 q.at_) := fun w' hu => ((st.belowU hu).iss.cellAt (k * 2) (by omega)).trans (flat_at issCells 2 issCells_len is k 0 (by omega) q hq)
            have M1 : ∀ w', Below wr.heap.size wr w' → w'.cell? ⟨g4, k * 2 + 1, none⟩ = some (.int .i64 q.gen) := fun w' hu => ((st.belowU hu).iss.cellAt (k * 2 + 1) (by omega)).trans (flat_at issCells 2 issCells_len is k 1 (by omega) q hq)
            have k0 : (0 : Int) ≤ (k : Int) := by omega
            have k1 : (k : Int) < (is.length : Int) := by omega
            have e0 : ((is.length : Int) == 0) = false := beq_false_of_ne (by omega)
            obtain ⟨g5, rfl⟩ := own_some st.ref (by omega)
            go_upto_region 14 with fail
            go_cut [16, 17] from 56 to 75 (fun s16 s17 wx => ∃ (dN : Nat) (AN : Option Addr) (cN : Nat), s16 = .pointer (some ⟨dN, 0, none⟩) ∧ s17 = .int .i64 (setW l q.at_ q.gen x.ref).2 ∧
              wr.heap.size ≤ dN ∧ St W wx l is A c (some ⟨g4, 0, none⟩) c4 (some ⟨g5, 0, none⟩) c5 A6 c6 ∧ Blk wx dN 24 #[.slice AN (setW l q.at_ q.gen x.ref).1.length cN] ∧ wx.ownsRow (W.heap.size + 1) 30 3 (.slice AN (setW l q.at_ q.gen x.ref).1.length cN) (setW l q.at_ q.gen x.ref).1.length ((setW l q.at_ q.gen x.ref).1.flatMap entCells))
            case first => as_aux_lemma =>
              obtain ⟨rr, hrr⟩ : ∃ rr, setW l q.at_ q.gen x.ref = rr := ⟨_, rfl⟩
              have HE := Lib.hid hrr
              clear hrr
              go_region_held3 (fun w' => Below wr.heap.size wr w') (first | assumption | exact (Below.refl _ _).drew | exact keep_alloc (by first | assumption | exact Below.refl _ _ | exact (Below.refl _ _).drew) _ | exact (keep_alloc (Below.refl _ _) _).drew | exact keep_set (by first | assumption | exact keep_alloc (by assumption) _) (by first | exact Nat.le_refl _ | (show wr.heap.size ≤ wN.heap.size; exact hbN.size)) _)
                (first | (go_at_call 16; refine (set_own A _ c l q.at_ q.gen x.ref _ (st.belowU (by assumption)).reads hll).mono ?_; rw [HE.out]; rintro e wN ⟨AN, cN, rfl, hoN, hbN0⟩; have hbN := keep_below hbN0 (by assumption); try (have nN := (Blk.new wr #[.slice none 0 0] 24).drew.below hbN0; have nNc := nN.cell 0 _ rfl; have nNf := nN.free)))
              all_goals
                go_wp2_with fail
                go_meet
                rw [HE.out]
                refine ⟨_, AN, cN, rfl, rfl, ?_, ?_, ?_, ?_⟩
                · first | exact Nat.le_refl _ | exact hbN.size
                · exact st.belowU (by first | exact keep_alloc hbN _ | exact keep_set hbN (Nat.le_refl _) _)
                · first | exact Blk.new _ _ _ | exact nN.set 0 _
                · first
                  | exact own_keep (own_base hoN (by show W.heap.size + 1 ≤ wr.heap.size; have := st.sz; omega)) (keep_alloc (Below.refl _ _) _)
                  | exact own_base (ownsRow_setCell_below hoN (by show wr.heap.size < (wr.alloc _).heap.size; simp) _) (by show W.heap.size + 1 ≤ (wr.alloc _).heap.size; have := st.sz; simp; omega)
            case rest => as_aux_lemma =>
              obtain ⟨dN, AN, cN, rfl, rfl, hdN, stX, nN, hoN⟩ := hcut
              clear L0 L2 M0 M1
              cases hgq : q.gone with
              | false =>
                obtain ⟨hset, hL'⟩ := hL.set hq hgq x.ref
                obtain ⟨L, hLd⟩ : ∃ L, l.set q.at_ ⟨q.gen, x.ref, true⟩ = L := ⟨_, rfl⟩
                rw [hLd] at hset hL'
                clear hLd
                rw [hset] at nN hoN ⊢
                dsimp only at nN hoN ⊢
                have hLl := Lib.hid hL'
                have stP := (stX.put hoN).setRef hq x.ref
                have stP2 := (stX.setRef hq x.ref).put (own_store hoN stX.ref (by decide) k (.int .u64 (U x.ref)))
                rw [hgq] at stP stP2
                have e5 := flat_at refCells 1 refCells_len is k 0 (by omega) q hq
                rw [Nat.mul_one, Nat.add_zero] at e5
                have c5k : wc.cell? ⟨g5, k, none⟩ = some (.int .u64 (U q.ref)) := (stX.ref.cellAt k (by omega)).trans e5
                clear e5
                have g5l := st.ref.lt g5 rfl
                have g5x := stX.ref.lt g5 rfl
                have nT := nN.cell 0 _ rfl
                have x3 := (stX.bel.cell (p := ⟨b0, off0 + i * 3 + 2, none⟩) hb0).trans ((st.bel.cell (p := ⟨b0, off0 + i * 3 + 2, none⟩) hb0).symm.trans x2)
                have hszw := st.sz
                have ne1 : dN ≠ W.heap.size := by omega
                have ne2 : dN ≠ g5 := by omega
                have ne3 : b0 ≠ W.heap.size := by omega
                have ne4 : b0 ≠ g5 := by omega
                have ne5 : g5 ≠ W.heap.size := by omega
                have bT := stX.box.cell 0 _ rfl
                have fT := stX.free
                have f5 := stX.ref.frozenAt k
                have c5p := cell_far (p := ⟨W.heap.size, 0, none⟩) (b := g5) ne5.symm (u := .slice AN L.length cN) c5k
                have bTp := cell_far (p := ⟨g5, k, none⟩) (b := W.heap.size) ne5 (u := .int .u64 (U x.ref)) bT
                clear hset hL' hoN
                go_upto_region 16 with fail
                go_region_held3 (fun w' => w'.cell? ⟨dN, 0, none⟩ = some (.slice AN L.length cN) ∧ w'.cell? ⟨b0, off0 + i * 3 + 2, none⟩ = some (.int .u64 (U x.ref)))
                  (first | exact ⟨nT, x3⟩ | (go_split_ands; refine ⟨cell_far (by first | exact ne1.symm | exact ne2.symm) (by assumption), cell_far (by first | exact ne3.symm | exact ne4.symm) (by assumption)⟩))
                  (first | fail)
                all_goals
                  go_wp2_with fail
                  go_meet
                  exact ⟨_, _, AN, cN, _, c4, _, c5, _, c6, by rw [List.length_set]; omega, hLl.out, by rw [List.length_set], by rw [List.length_set], by rw [List.length_set], by first | exact stP.drew | exact stP2.drew | exact stP | exact stP2⟩
              | true =>
                have hset := hL.gone_set hq hgq x.ref
                rw [hset]
                dsimp only
                clear hset nN hoN
                go_wp2_with fail
                go_meet
                exact ⟨l, is, A, c, _, c4, _, c5, _, c6, by omega, hL, rfl, rfl, rfl, stX⟩
        case rest =>
          clear st hL hil
          obtain ⟨l, is, A, c, A4, c4, A5, c5, A6, c6, hil, hL, rfl, rfl, rfl, st⟩ := hcut
          go_wp2_with fail
          go_loopw [18] (fun x wq => ∃ m : Nat, m ≤ is.length ∧ x = .int .i64 m ∧ Below wc.heap.size wc wq) (fun x _ => is.length - (intOf x).toNat)
          case atStart => exact ⟨0, by omega, rfl, Below.refl _ _⟩
          case round => as_aux_lemma =>
            obtain ⟨m, hm, rfl, hbm⟩ := hrel
            have stm := st.belowU hbm
            by_cases hml : m < is.length
            · obtain ⟨q, hq⟩ : ∃ q, is[m]? = some q := ⟨_, List.getElem?_eq_getElem hml⟩
              obtain ⟨g4, rfl⟩ := own_some st.iss (by omega)
              obtain ⟨g5, rfl⟩ := own_some st.ref (by omega)
              obtain ⟨g6, rfl⟩ := own_some st.gone (by omega)
              have t0 := stm.cell
              have c40 := (stm.iss.cellAt (m * 2) (by omega)).trans (flat_at issCells 2 issCells_len is m 0 (by omega) q hq)
              have c41 := (stm.iss.cellAt (m * 2 + 1) (by omega)).trans (flat_at issCells 2 issCells_len is m 1 (by omega) q hq)
              simp only [issCells, List.getElem?_cons_zero, List.getElem?_cons_succ] at c40 c41
              have hlt : decide ((m : Int) < (is.length : Int)) = true := decide_eq_true (by omega)
              have m0 : (0 : Int) ≤ (m : Int) := by omega
              have m1 : (m : Int) < (is.length : Int) := by omega
              have hget := hL.get (List.mem_of_getElem? hq)
              have hrd := stm.reads
              have HGT := Lib.hid hget
              obtain ⟨N', hN'⟩ : ∃ N', is.length = N' + 1 := ⟨is.length - 1, by omega⟩
              have hwN : IntKind.i64.wrap ((is.length : Int) - 1) = (N' : Int) := by rw [hN']; rw [IntWalk.i64_in _ (by omega)]; omega
              have HN' := Lib.hid hN'
              clear hget hN'
              go_upto_region 35 with fail
              have T0 := Lag.cell t0
              have D0 := Lag.cell c40
              have D1 := Lag.cell c41
              clear t0 c40 c41
              refine wp_region_lag (by kernel_rfl) (by kernel_rfl) ?_
              repeat (go_big_quiet_step ((go_at_call 17; exact Calls.lag (get_any A _ c l q.at_ q.gen _ (hrd.belowU (Lag.h _))))))
              refine wpQuiet_nil ?_
              rintro w2 ⟨uu, hu⟩
              have hb2 : Below wr.heap.size wr w2 := hu ▸ uu.h
              clear hu uu
              have st2 := stm.belowU hb2
              have e6 := flat_at goneCells 1 goneCells_len is m 0 (by omega) q hq
              have e5 := flat_at refCells 1 refCells_len is m 0 (by omega) q hq
              rw [Nat.mul_one, Nat.add_zero] at e5 e6
              have d6 := (st2.gone.cellAt m (by omega)).trans e6
              have d5 := (st2.ref.cellAt m (by omega)).trans e5
              have d40 := (st2.iss.cellAt (m * 2) (by omega)).trans (flat_at issCells 2 issCells_len is m 0 (by omega) q hq)
              have d41 := (st2.iss.cellAt (m * 2 + 1) (by omega)).trans (flat_at issCells 2 issCells_len is m 1 (by omega) q hq)
              simp only [issCells, goneCells, refCells, List.getElem?_cons_zero, List.getElem?_cons_succ] at d6 d5 d40 d41
              have hNN := HN'.out
              obtain ⟨p, hp⟩ : ∃ p, is[N']? = some p := ⟨_, List.getElem?_eq_getElem (by omega)⟩
              have f40 := (st2.iss.cellAt (N' * 2) (by omega)).trans (flat_at issCells 2 issCells_len is N' 0 (by omega) p hp)
              have f41 := (st2.iss.cellAt (N' * 2 + 1) (by omega)).trans (flat_at issCells 2 issCells_len is N' 1 (by omega) p hp)
              simp only [issCells, List.getElem?_cons_zero, List.getElem?_cons_succ] at f40 f41
              have hap := hL.apart m N' q p hq hp
              have HST := Lib.hid st2
              have HBB := Lib.hid (keep_below hb2 hbm)
              have n0 : (0 : Int) ≤ (N' : Int) := by omega
              have n1 : (N' : Int) < (is.length : Int) := by omega
              have hcmp : (decide ((m : Int) < (N' : Int)) = false ∧ decide (m < N') = false) ∨ (decide ((m : Int) < (N' : Int)) = true ∧ decide (m < N') = true ∧ ¬ (q.at_ = p.at_ ∧ q.gen = p.gen)) := by
                by_cases h : m < N'
                · exact Or.inr ⟨decide_eq_true (by omega), decide_eq_true h, fun ⟨h1, h2⟩ => by have := hap h1 h2; omega⟩
                · exact Or.inl ⟨decide_eq_false (by omega), decide_eq_false h⟩
              have HNL := Lib.hid hNN
              clear e5 e6 hap hNN hb2 st2 stm hbm hp hq hrd T0 D0 D1 HN'
              have hge : getW l (q.at_ : Int) q.gen = if q.gone = true then (0#64, 8) else (q.ref, 0) := HGT.out
              have hue : (U q.ref != U q.ref) = false := bne_self_eq_false _
              cases hgq : q.gone with
              | false =>
                rw [hgq] at hge d6
                rw [if_neg (by decide)] at hge
                rw [hge]
                clear hge HGT
                dsimp only
                go_upto_region 38 with fail
                clear d5 d6
                have D0 := Lag.cell d40
                have D1 := Lag.cell d41
                have F0 := Lag.cell f40
                have F1 := Lag.cell f41
                clear d40 d41 f40 f41
                rcases hcmp with ⟨hc, hcn⟩ | ⟨hc, hcn, hne⟩
                · refine wp_region_lag (by kernel_rfl) (by kernel_rfl) ?_
                  repeat (go_big_quiet_step (fail))
                  refine wpQuiet_nil ?_
                  rintro w3 ⟨uu, hu⟩
                  have hb3 : Below w2.heap.size w2 w3 := hu ▸ uu.h
                  clear hu uu
                  go_wp2_with fail
                  go_roundw
                  case rel => exact ⟨m + 1, by omega, by go_num, keep_below hb3 HBB.out⟩
                  case measure => simp [intOf]; omega
                · have hpn := fun w => pair_ne (a := (q.at_ : Int)) (b := q.gen) (c := (p.at_ : Int)) (d := p.gen) (fun h => hne ⟨by omega, h.2⟩) w
                  refine wp_region_lag (by kernel_rfl) (by kernel_rfl) ?_
                  repeat (go_big_quiet_step (fail))
                  refine wpQuiet_nil ?_
                  rintro w3 ⟨uu, hu⟩
                  have hb3 : Below w2.heap.size w2 w3 := hu ▸ uu.h
                  clear hu uu hpn
                  go_wp2_with fail
                  go_roundw
                  case rel => exact ⟨m + 1, by omega, by go_num, keep_below hb3 HBB.out⟩
                  case measure => simp [intOf]; omega
              | true =>
                rw [hgq] at hge d6
                rw [if_pos rfl] at hge
                rw [hge]
                clear hge HGT
                dsimp only
                go_upto_region 38 with fail
                clear d5 d6
                have D0 := Lag.cell d40
                have D1 := Lag.cell d41
                have F0 := Lag.cell f40
                have F1 := Lag.cell f41
                clear d40 d41 f40 f41
                rcases hcmp with ⟨hc, hcn⟩ | ⟨hc, hcn, hne⟩
                · refine wp_region_lag (by kernel_rfl) (by kernel_rfl) ?_
                  repeat (go_big_quiet_step (fail))
                  refine wpQuiet_nil ?_
                  rintro w3 ⟨uu, hu⟩
                  have hb3 : Below w2.heap.size w2 w3 := hu ▸ uu.h
                  clear hu uu
                  go_wp2_with fail
                  go_roundw
                  case rel => exact ⟨m + 1, by omega, by go_num, keep_below hb3 HBB.out⟩
                  case measure => simp [intOf]; omega
                · have hpn := fun w => pair_ne (a := (q.at_ : Int)) (b := q.gen) (c := (p.at_ : Int)) (d := p.gen) (fun h => hne ⟨by omega, h.2⟩) w
                  refine wp_region_lag (by kernel_rfl) (by kernel_rfl) ?_
                  repeat (go_big_quiet_step (fail))
                  refine wpQuiet_nil ?_
                  rintro w3 ⟨uu, hu⟩
                  have hb3 : Below w2.heap.size w2 w3 := hu ▸ uu.h
                  clear hu uu hpn
                  go_wp2_with fail
                  go_roundw
                  case rel => exact ⟨m + 1, by omega, by go_num, keep_below hb3 HBB.out⟩
                  case measure => simp [intOf]; omega
            · obtain rfl : m = is.length := by omega
              have hlt : decide ((is.length : Int) < (is.length : Int)) = false := by simp
              go_wp2_with fail
              go_roundw
              case rel => exact ⟨i + 1, l, is, A, c, A4, c4, A5, c5, A6, c6, by omega, by omega, by omega, hL, rfl, rfl, rfl, by go_num, stm⟩
              case measure => simp [intOf]; omega
    · have hd : ((decide ((i : Int) < (n : Int)) = false) ∧ decide (i < n) = false) ∨ (decide ((i : Int) < (n : Int)) = true ∧ decide (i < n) = true ∧ decide ((i : Int) < 120) = false ∧ decide (i < 120) = false) := by
        by_cases h : i < n
        · exact Or.inr ⟨decide_eq_true (by omega), decide_eq_true h, decide_eq_false (by omega), decide_eq_false (by omega)⟩
        · exact Or.inl ⟨decide_eq_false (by omega), decide_eq_false h⟩
      clear hend
      rcases hd with ⟨hd, hd2⟩ | ⟨hd, hd2, hd3, hd4⟩
      all_goals
        go_wp2_with fail
        refine (awake_any _).mono ?_
        rintro e w1 ⟨rfl, hb1⟩
        have st1 := st.belowU hb1
        have t0 := st1.cell
        have hbl := st1.bel
        have hrd := st1.reads
        have HV := Lib.hid hL.valid
        clear st st1 hb1
        go_wp2_with fail
        refine (valid_any A _ c l _ hrd).mono ?_
        rintro e w2 ⟨rfl, hb2⟩
        rw [HV.out]
        go_wp2_with fail
        go_ret
        exact ⟨rfl, keep_below hb2 hbl⟩
end Go.Proofs.Ytfcghhpbjnlldaa

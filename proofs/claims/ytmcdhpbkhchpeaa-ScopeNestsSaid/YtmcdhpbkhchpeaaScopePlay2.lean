/- The walk of play. Printed by mk_play.py. -/
import Derived.Test.YtmcdhpbkhchpeaaScopePlay1
import Derived.Test.YtmcdhpbkhchpeaaScopeLaw4
import Derived.Deep.RegionHeld3
import Derived.Deep.CutBlock
namespace Go.Proofs.Ytmcdhpbkhchpeaa
open Go.ChangeShapes Go.WideShapes Go.RowKit Words

theorem tmod_wrap {a b : Int} (hb : 0 < b) : ∃ k : Nat, (a.tmod b + b).tmod b = k ∧ (k : Int) < b := by
  obtain ⟨h1, h2⟩ := tmod_range a b hb
  have h3 : 0 ≤ (a.tmod b + b).tmod b := Int.tmod_nonneg _ (by omega)
  have h4 := Int.tmod_lt_of_pos (a.tmod b + b) hb
  exact ⟨((a.tmod b + b).tmod b).toNat, by omega, by omega⟩

theorem keep_allocB {B : Nat} {w0 w : World} (h : Below B w0 w) (hB : B ≤ w0.heap.size) (o : Obj) : Below B w0 (w.alloc o) := h.alloc (Nat.le_trans hB h.size) o
theorem blk_row_ne {w : World} {b e s n g : Nat} {t : TypeId} {v : Value} {xs : List Value} {cs : Array Value} (hb : Blk w g t cs) (h : w.ownsRow b e s v n xs) (hne : e ≠ t) : some g ≠ v.ownBlock := by
  rcases h.2 with ⟨rfl, -⟩ | ⟨g', cap, cur, rfl, -, hg, -⟩
  · simp [Value.ownBlock]
  · intro he
    simp only [Value.ownBlock, Option.some.injEq] at he
    rw [← he, show w.heap[g]? = _ from hb] at hg
    simp only [Option.some.injEq, Obj.cells.injEq] at hg
    exact hne hg.2.1.symm
/-- the rows together -/
structure Rz (u : World) (B : Nat) (As : Option Addr) (cs : Nat) (Ap : Option Addr) (cp : Nat) (Ai : Option Addr) (ci : Nat) (x : Lc) (Bs : Option Addr) (ds : Nat) (Bp : Option Addr) (dp : Nat) (Bi : Option Addr) (di : Nat) (y : Lc) (v4 : Value) (n4 : Nat) (x4 : List Value) (v5 : Value) (n5 : Nat) (x5 : List Value) : Prop where
  own : LOwn u B As x.s.length cs Ap x.p.length cp Ai x.i.length ci x.s x.p x.i
  old : LOwn u B Bs y.s.length ds Bp y.p.length dp Bi y.i.length di y.s y.p y.i
  r4 : u.ownsRow B 51 2 v4 n4 x4
  r5 : u.ownsRow B 32 1 v5 n5 x5
section
variable {u u' : World} {B n4 n5 n' : Nat} {As Ap Ai Bs Bp Bi : Option Addr} {cs cp ci ds dp di : Nat} {x y : Lc} {v4 v5 v' : Value} {x4 x5 x' : List Value}
theorem Rz.alloc (h : Rz u B As cs Ap cp Ai ci x Bs ds Bp dp Bi di y v4 n4 x4 v5 n5 x5) (o : Obj) : Rz (u.alloc o) B As cs Ap cp Ai ci x Bs ds Bp dp Bi di y v4 n4 x4 v5 n5 x5 := ⟨h.own.below (keep_alloc (Below.refl _ _) o), h.old.below (keep_alloc (Below.refl _ _) o), h.r4.alloc o, h.r5.alloc o⟩
theorem Rz.drew (h : Rz u B As cs Ap cp Ai ci x Bs ds Bp dp Bi di y v4 n4 x4 v5 n5 x5) : Rz u.drew B As cs Ap cp Ai ci x Bs ds Bp dp Bi di y v4 n4 x4 v5 n5 x5 := ⟨h.own.below (Below.refl _ _).drew, h.old.below (Below.refl _ _).drew, h.r4.drew, h.r5.drew⟩
theorem Rz.app4 (h : Rz u B As cs Ap cp Ai ci x Bs ds Bp dp Bi di y v4 n4 x4 v5 n5 x5) (hg : u.grownBy u' v4.ownBlock) (ho : u'.ownsRow B 51 2 v' n' x') : Rz u' B As cs Ap cp Ai ci x Bs ds Bp dp Bi di y v' n' x' v5 n5 x5 :=
  ⟨h.own.other h.r4 (by decide) (by decide) (by decide) hg, h.old.other h.r4 (by decide) (by decide) (by decide) hg, ho, own_other h.r5 h.r4 (by decide) hg⟩
theorem Rz.app5 (h : Rz u B As cs Ap cp Ai ci x Bs ds Bp dp Bi di y v4 n4 x4 v5 n5 x5) (hg : u.grownBy u' v5.ownBlock) (ho : u'.ownsRow B 32 1 v' n' x') : Rz u' B As cs Ap cp Ai ci x Bs ds Bp dp Bi di y v4 n4 x4 v' n' x' :=
  ⟨h.own.other h.r5 (by decide) (by decide) (by decide) hg, h.old.other h.r5 (by decide) (by decide) (by decide) hg, own_other h.r4 h.r5 (by decide) hg, ho⟩
end

set_option linter.unusedSimpArgs false in
set_option maxRecDepth 100000 in
set_option maxHeartbeats 20000000 in
theorem play_any (A0 : Option Addr) (n c0 : Nat) (acts : List Deed) (w : World) (ha : Reads w w.heap.size 4 A0 n c0 (acts.flatMap deedCells)) (hok : ∀ d ∈ acts, d.ok64) :
    Calls Try.prog 33 #[.slice A0 n c0] w fun e w' => ∃ (x : Lc) (is : List Iss) (As : Option Addr) (cs : Nat) (Ap : Option Addr) (cp : Nat) (Ai : Option Addr) (ci : Nat) (A4 : Option Addr) (c4 : Nat) (A5 : Option Addr) (c5 : Nat),
      e = .returned (.tuple #[locV As x.s.length cs Ap x.p.length cp Ai x.i.length ci, .slice A4 is.length c4, .slice A5 is.length c5, .bool true]) ∧ Good x is ∧ is.length ≤ 100 ∧
      LOwn w' (w.heap.size + 2) As x.s.length cs Ap x.p.length cp Ai x.i.length ci x.s x.p x.i ∧ w'.ownsRow (w.heap.size + 2) 51 2 (.slice A4 is.length c4) is.length (is.flatMap issCells) ∧ w'.ownsRow (w.heap.size + 2) 32 1 (.slice A5 is.length c5) is.length (is.flatMap refCells) ∧ Below w.heap.size w w' := by
  have hcap : n ≤ 9223372036854775807 := by have h1 := ha.cap; have h2 := ha.le; unfold maxLen at h1; omega
  have hn := ha.length deedCells_len (by omega)
  have st0 : PSt w ((w.alloc (.cells #[.slice none 0 0, .slice none 0 0, .slice none 0 0] 26)).alloc (.cells #[.slice none 0 0, .slice none 0 0, .slice none 0 0] 26)) Lc.nil [] none 0 none 0 none 0 none 0 none 0 :=
    ⟨(Blk.new _ _ _).alloc _, Blk.newAt _ _ _ _ (by simp), LOwn.nil _ _, World.ownsRow_nil _ _ _ _, World.ownsRow_nil _ _ _ _, keep_alloc (loc_alloc w _ _ _ _) _, by simp⟩
  have HOK := Lib.hid hok
  have HN := Lib.hid hn
  clear hok hn
  go_enter Try.func33, Try.ntmps33
  go_wp2_with fail
  go_loopw [7, 8, 9] (fun x7 x8 x9 wq => ∃ (i : Nat) (x : Lc) (is : List Iss) (As : Option Addr) (cs : Nat) (Ap : Option Addr) (cp : Nat) (Ai : Option Addr) (ci : Nat) (A4 : Option Addr) (c4 : Nat) (A5 : Option Addr) (c5 : Nat),
    i ≤ n ∧ i ≤ 100 ∧ is.length ≤ i ∧ Good x is ∧ x7 = .slice A4 is.length c4 ∧ x8 = .slice A5 is.length c5 ∧ x9 = .int .i64 i ∧ PSt w wq x is As cs Ap cp Ai ci A4 c4 A5 c5) (fun _ _ z _ => n - (intOf z).toNat)
  case atStart => exact ⟨0, Lc.nil, [], none, 0, none, 0, none, 0, none, 0, none, 0, by omega, by omega, by simp, Good.start, rfl, rfl, rfl, st0⟩
  case round =>
    clear st0
    obtain ⟨i, x, is, As, cs, Ap, cp, Ai, ci, A4, c4, A5, c5, hi, hi2, hil, hG, rfl, rfl, rfl, st⟩ := hrel
    by_cases hend : i < n ∧ i < 100
    · obtain ⟨hin, hi100⟩ := hend
      have z1 : decide ((i : Int) < (n : Int)) = true := decide_eq_true (by omega)
      have z2 : decide ((i : Int) < 100) = true := decide_eq_true (by omega)
      obtain ⟨b0, off0, d, rfl, hb0, hx, hc⟩ := (show Reads wr w.heap.size 4 A0 n c0 (acts.flatMap deedCells) from ha.below st.bel).elem deedCells_len (by omega) hin
      have x0 := hc 0 _ rfl
      have x1 := hc 1 _ rfl
      have x2 := hc 2 _ rfl
      have x3 := hc 3 _ rfl
      rw [Nat.add_zero] at x0
      have hi0 : (0 : Int) ≤ (i : Int) := by omega
      have hi1 : (i : Int) < (n : Int) := by omega
      have hdk := HOK.out d (List.mem_of_getElem? hx)
      have l0 := st.box.cell 0 _ rfl
      have l1 := st.box.cell 1 _ rfl
      have l2 := st.box.cell 2 _ rfl
      have D2 := (Blk.new wr #[.int .i64 d.kind, .int .i64 d.size, .int .i64 d.which, .int .u64 (U d.ref)] 72).alloc (.cells #[.slice As x.s.length cs, .slice Ap x.p.length cp, .slice Ai x.i.length ci] 26)
      have N2 := Blk.newAt (wr.alloc (.cells #[.int .i64 d.kind, .int .i64 d.size, .int .i64 d.which, .int .u64 (U d.ref)] 72)) #[.slice As x.s.length cs, .slice Ap x.p.length cp, .slice Ai x.i.length ci] 26 (wr.heap.size + 1) (by simp)
      have hba : Below wr.heap.size wr ((wr.alloc (.cells #[.int .i64 d.kind, .int .i64 d.size, .int .i64 d.which, .int .u64 (U d.ref)] 72)).alloc (.cells #[.slice As x.s.length cs, .slice Ap x.p.length cp, .slice Ai x.i.length ci] 26)) := keep_alloc (keep_alloc (Below.refl _ _) _) _
      have st2 := st.belowU hba
      have hsg : w.heap.size + 1 < wr.heap.size := st.sz
      have hs2 : ((wr.alloc (.cells #[.int .i64 d.kind, .int .i64 d.size, .int .i64 d.which, .int .u64 (U d.ref)] 72)).alloc (.cells #[.slice As x.s.length cs, .slice Ap x.p.length cp, .slice Ai x.i.length ci] 26)).heap.size = wr.heap.size + 2 := by simp
      obtain ⟨r, hr, hr2⟩ := tmod_wrap (a := d.kind) (b := 8) (by omega)
      obtain ⟨hq0, hq1⟩ := tmod_range d.kind 8 (by omega)
      have e1 : IntKind.i64.wrap (d.kind.tmod 8) = d.kind.tmod 8 := IntWalk.i64_in _ (by omega)
      have e2 : IntKind.i64.wrap (d.kind.tmod 8 + 8) = d.kind.tmod 8 + 8 := IntWalk.i64_in _ (by omega)
      have e3 : IntKind.i64.wrap (r : Int) = (r : Int) := IntWalk.i64_in _ (by omega)
      have HG := Lib.hid hG
      have HLN := Lib.hid hG.lens
      clear hq0 hq1 hc hx hba
      go_upto_block 2 with fail
      clear x0 x1 x2 x3 l0 l1 l2 e1 e2 e3 hr
      obtain ⟨w2, hw2⟩ : ∃ w2, (wr.alloc (.cells #[.int .i64 d.kind, .int .i64 d.size, .int .i64 d.which, .int .u64 (U d.ref)] 72)).alloc (.cells #[.slice As x.s.length cs, .slice Ap x.p.length cp, .slice Ai x.i.length ci] 26) = w2 := ⟨_, rfl⟩
      obtain ⟨g, hg⟩ : ∃ g, wr.heap.size = g := ⟨_, rfl⟩
      rw [hw2] at D2 N2 st2 hs2
      rw [hg] at D2 N2 hsg hs2
      rw [hw2, hg]
      clear hw2 hg st hG
      go_cut [7, 8, 12] from 13 to 124 (fun s7 s8 s12 wx => ∃ (y : Lc) (er : Int) (is' : List Iss) (Bs : Option Addr) (ds : Nat) (Bp : Option Addr) (dp : Nat) (Bi : Option Addr) (di : Nat) (A4 : Option Addr) (c4 : Nat) (A5 : Option Addr) (c5 : Nat), is'.length ≤ i + 1 ∧ s7 = .slice A4 is'.length c4 ∧ s8 = .slice A5 is'.length c5 ∧ s12 = .int .i64 er ∧ (er = 0 → Good y is') ∧ (er ≠ 0 → Good x is') ∧
            PSt w wx x is' As cs Ap cp Ai ci A4 c4 A5 c5 ∧ Blk wx (g + 1) 26 #[.slice Bs y.s.length ds, .slice Bp y.p.length dp, .slice Bi y.i.length di] ∧ LOwn wx (w.heap.size + 2) Bs y.s.length ds Bp y.p.length dp Bi y.i.length di y.s y.p y.i)
      case first =>
        have y0 := D2.cell 0 _ rfl
        have y1 := D2.cell 1 _ rfl
        have y2 := D2.cell 2 _ rfl
        have y3 := D2.cell 3 _ rfl
        have l0 := st2.box.cell 0 _ rfl
        have l1 := st2.box.cell 1 _ rfl
        have l2 := st2.box.cell 2 _ rfl
        obtain ⟨sz, hsz, hsz2⟩ := tmod_wrap (a := d.size) (b := 9) (by omega)
        obtain ⟨hq0, hq1⟩ := tmod_range d.size 9 (by omega)
        have e1 : IntKind.i64.wrap (d.size.tmod 9) = d.size.tmod 9 := IntWalk.i64_in _ (by omega)
        have e2 : IntKind.i64.wrap (d.size.tmod 9 + 9) = d.size.tmod 9 + 9 := IntWalk.i64_in _ (by omega)
        have e3 : IntKind.i64.wrap (sz : Int) = (sz : Int) := IntWalk.i64_in _ (by omega)
        clear hq0 hq1
        by_cases h5 : 5 ≤ r
        · as_aux_lemma =>
          have g0 : ((r : Int) == 0) = false := beq_false_of_ne (by omega)
          have g1 : ((r : Int) == 1) = false := beq_false_of_ne (by omega)
          have g2 : ((r : Int) == 2) = false := beq_false_of_ne (by omega)
          have g3 : ((r : Int) == 3) = false := beq_false_of_ne (by omega)
          have g4 : ((r : Int) == 4) = false := beq_false_of_ne (by omega)
          have hor := bits_or_one d.ref
          obtain ⟨q, hq⟩ : ∃ q, newL x (d.ref ||| 1#64) = q := ⟨_, rfl⟩
          have HQ := Lib.hid hq
          clear hq e1 e2 e3 hsz hsz2
          go_wp2_with fail
          refine (new_any As _ cs Ap _ cp Ai _ ci _ _ _ (d.ref ||| 1#64) _ st2.own.rd HLN.out.1 HLN.out.2.1 HLN.out.2.2).mono ?_
          rw [show newL ⟨x.s, x.p, x.i⟩ (d.ref ||| 1#64) = q from HQ.out]
          rintro e w3 ⟨E1, f1, E2, f2, E3, f3, rfl, hown, hb3⟩
          have st3 := st2.belowU hb3
          have N3 := N2.below hb3
          have fx := N3.free
          have s0 := N3.cell 0 _ rfl
          have s1 := N3.cell 1 _ rfl
          have s2 := N3.cell 2 _ rfl
          have st4 := st3.far3 N3 (by omega) (.slice E1 q.1.s.length f1) (.slice E2 q.1.p.length f2) (.slice E3 q.1.i.length f3)
          have N4 := N3.put3 (.slice E1 q.1.s.length f1) (.slice E2 q.1.p.length f2) (.slice E3 q.1.i.length f3)
          have D4 := (D2.below hb3).far3 (show g ≠ g + 1 by omega) (.slice E1 q.1.s.length f1) (.slice E2 q.1.p.length f2) (.slice E3 q.1.i.length f3)
          have O4 := (hown.far3 (g := g + 1) (by omega) (.slice E1 q.1.s.length f1) (.slice E2 q.1.p.length f2) (.slice E3 q.1.i.length f3)).rebase (base' := w.heap.size + 2) (by omega)
          by_cases her : q.2.2.2 = 0
          · have e9 : (q.2.2.2 == 0) = true := by rw [her]; rfl
            have hgood : Good q.1 (is ++ [⟨q.2.1, q.2.2.1, d.ref ||| 1#64⟩]) := by rw [← HQ.out] at her ⊢; exact HG.out.newE her
            have HGD := Lib.hid hgood
            have HER := Lib.hid her
            clear hgood her
            go_upto_region 13 with fail
            obtain ⟨w4, hw4⟩ : ∃ w4, ((w3.setCell ⟨g + 1, 0, none⟩ (.slice E1 q.1.s.length f1)).setCell ⟨g + 1, 1, none⟩ (.slice E2 q.1.p.length f2)).setCell ⟨g + 1, 2, none⟩ (.slice E3 q.1.i.length f3) = w4 := ⟨_, rfl⟩
            rw [hw4] at st4 N4 D4 O4 ⊢
            clear hw4 s0 s1 s2 fx N3 st3 hown hb3 y0 y1 y2 y3 l0 l1 l2 st2 N2 D2 hs2
            have y34 := D4.cell 3 _ rfl
            have rz : Rz w4 (w.heap.size + 2) E1 f1 E2 f2 E3 f3 q.1 As cs Ap cp Ai ci x (.slice A4 is.length c4) is.length (is.flatMap issCells) (.slice A5 is.length c5) is.length (is.flatMap refCells) := ⟨O4, st4.own, st4.iss, st4.ref⟩
            have q1 : is.length + 1 ≤ maxLen := by unfold maxLen; omega
            have hsz4 := st4.sz
            have HST := Lib.hid st4
            go_region_held3 (fun w' => Below (w.heap.size + 2) w4 w' ∧ w'.cell? ⟨g, 3, none⟩ = some (.int .u64 (U d.ref)))
              (first | assumption | exact ⟨(Below.refl _ _).drew, y34⟩ | exact ⟨hbB, DB.cell 3 _ rfl⟩ | exact ⟨hbA, DA.cell 3 _ rfl⟩ | (have hc : Below (w.heap.size + 2) w4 _ ∧ World.cell? _ ⟨g, 3, none⟩ = some (.int .u64 (U d.ref)) := (by first | assumption | exact ⟨(Below.refl _ _).drew, y34⟩); exact ⟨keep_allocB hc.1 hsz4 _, keep_cell (keep_alloc (Below.refl _ _) _) hc.2⟩) | exact ⟨(keep_allocB (Below.refl _ _) hsz4 _).drew, keep_cell (keep_alloc (Below.refl _ _) _) y34⟩)
              (first
              | (refine step_appG rfl _ _ _ (by rfl) tyIss (by rfl) (show Rz _ (w.heap.size + 2) E1 f1 E2 f2 E3 f3 q.1 As cs Ap cp Ai ci x (.slice A4 is.length c4) is.length (is.flatMap issCells) (.slice A5 is.length c5) is.length (is.flatMap refCells) from by repeat (first | with_reducible refine Rz.alloc ?_ _ | with_reducible refine Rz.drew ?_ | exact rz)).r4 (by rfl) (show Reads _ _ _ _ 1 1 [.int .i64 q.2.1, .int .i64 q.2.2.1] from reads_blk (e := 51) (cs := #[.int .i64 q.2.1, .int .i64 q.2.2.1]) (by repeat (first | (with_reducible refine Blk.newAt _ _ _ _ ?_; simp; done) | with_reducible refine Blk.alloc ?_ _ | with_reducible refine Blk.drew ?_ | exact hkA _ _ _ (by repeat (first | (with_reducible refine Blk.newAt _ _ _ _ ?_; simp; done) | with_reducible refine Blk.alloc ?_ _ | with_reducible refine Blk.drew ?_)) (by decide))) rfl rfl (by decide)) (by simp [Value.oneCell']) q1 (by omega) (Nat.le_trans hsz4 (Below.size (And.left (b := World.cell? _ ⟨g, 3, none⟩ = some (.int .u64 (U d.ref))) (by first | assumption | exact ⟨(Below.refl _ _).drew, y34⟩) : Below (w.heap.size + 2) w4 _))) ?_; intro vA wA ownA hgA; obtain ⟨AA, cA, rfl, -⟩ := Reads.own ownA; have hbA : Below (w.heap.size + 2) w4 wA := Below.trans (And.left (b := World.cell? _ ⟨g, 3, none⟩ = some (.int .u64 (U d.ref))) (by first | assumption | exact ⟨(Below.refl _ _).drew, y34⟩) : Below (w.heap.size + 2) w4 _) (below_own (show Rz _ (w.heap.size + 2) E1 f1 E2 f2 E3 f3 q.1 As cs Ap cp Ai ci x (.slice A4 is.length c4) is.length (is.flatMap issCells) (.slice A5 is.length c5) is.length (is.flatMap refCells) from by repeat (first | with_reducible refine Rz.alloc ?_ _ | with_reducible refine Rz.drew ?_ | exact rz)).r4 hgA (Nat.le_refl _) (Nat.le_trans hsz4 (Below.size (And.left (b := World.cell? _ ⟨g, 3, none⟩ = some (.int .u64 (U d.ref))) (by first | assumption | exact ⟨(Below.refl _ _).drew, y34⟩) : Below (w.heap.size + 2) w4 _)))); have RA := (show Rz _ (w.heap.size + 2) E1 f1 E2 f2 E3 f3 q.1 As cs Ap cp Ai ci x (.slice A4 is.length c4) is.length (is.flatMap issCells) (.slice A5 is.length c5) is.length (is.flatMap refCells) from by repeat (first | with_reducible refine Rz.alloc ?_ _ | with_reducible refine Rz.drew ?_ | exact rz)).app4 hgA ownA; have hkA : ∀ gg tt css, Blk _ gg tt css → 51 ≠ tt → Blk wA gg tt css := fun gg tt css h ht => blk_ne h hgA (blk_row_ne h (show Rz _ (w.heap.size + 2) E1 f1 E2 f2 E3 f3 q.1 As cs Ap cp Ai ci x (.slice A4 is.length c4) is.length (is.flatMap issCells) (.slice A5 is.length c5) is.length (is.flatMap refCells) from by repeat (first | with_reducible refine Rz.alloc ?_ _ | with_reducible refine Rz.drew ?_ | exact rz)).r4 ht); have DA := hkA _ _ _ (show Blk _ g 72 #[.int .i64 d.kind, .int .i64 d.size, .int .i64 d.which, .int .u64 (U d.ref)] from by repeat (first | with_reducible refine Blk.alloc ?_ _ | with_reducible refine Blk.drew ?_ | exact D4)) (by decide); have NA := hkA _ _ _ (show Blk _ (g + 1) 26 #[.slice E1 q.1.s.length f1, .slice E2 q.1.p.length f2, .slice E3 q.1.i.length f3] from by repeat (first | with_reducible refine Blk.alloc ?_ _ | with_reducible refine Blk.drew ?_ | exact N4)) (by decide))
              | (refine step_appG rfl _ _ _ (by rfl) tyWo (by rfl) (show Rz _ (w.heap.size + 2) E1 f1 E2 f2 E3 f3 q.1 As cs Ap cp Ai ci x (.slice AA (is.length + 1) cA) (is.length + 1) (is.flatMap issCells ++ [.int .i64 q.2.1, .int .i64 q.2.2.1]) (.slice A5 is.length c5) is.length (is.flatMap refCells) from by repeat (first | with_reducible refine Rz.alloc ?_ _ | with_reducible refine Rz.drew ?_ | exact RA)).r5 (by rfl) (show Reads _ _ _ _ 1 1 [.int .u64 (U (d.ref ||| 1#64))] from reads_blk (e := 32) (cs := #[.int .u64 (U (d.ref ||| 1#64))]) (by repeat (first | (with_reducible refine Blk.newAt _ _ _ _ ?_; simp; done) | with_reducible refine Blk.alloc ?_ _ | with_reducible refine Blk.drew ?_ | exact hkA _ _ _ (by repeat (first | (with_reducible refine Blk.newAt _ _ _ _ ?_; simp; done) | with_reducible refine Blk.alloc ?_ _ | with_reducible refine Blk.drew ?_)) (by decide))) rfl rfl (by decide)) (by simp [Value.oneCell']) q1 (by omega) (Nat.le_trans hsz4 (Below.size (And.left (b := World.cell? _ ⟨g, 3, none⟩ = some (.int .u64 (U d.ref))) (by first | assumption | exact ⟨(Below.refl _ _).drew, y34⟩) : Below (w.heap.size + 2) w4 _))) ?_; intro vB wB ownB hgB; obtain ⟨AB, cB, rfl, -⟩ := Reads.own ownB; have hbB : Below (w.heap.size + 2) w4 wB := Below.trans (And.left (b := World.cell? _ ⟨g, 3, none⟩ = some (.int .u64 (U d.ref))) (by first | assumption | exact ⟨(Below.refl _ _).drew, y34⟩) : Below (w.heap.size + 2) w4 _) (below_own (show Rz _ (w.heap.size + 2) E1 f1 E2 f2 E3 f3 q.1 As cs Ap cp Ai ci x (.slice AA (is.length + 1) cA) (is.length + 1) (is.flatMap issCells ++ [.int .i64 q.2.1, .int .i64 q.2.2.1]) (.slice A5 is.length c5) is.length (is.flatMap refCells) from by repeat (first | with_reducible refine Rz.alloc ?_ _ | with_reducible refine Rz.drew ?_ | exact RA)).r5 hgB (Nat.le_refl _) (Nat.le_trans hsz4 (Below.size (And.left (b := World.cell? _ ⟨g, 3, none⟩ = some (.int .u64 (U d.ref))) (by first | assumption | exact ⟨(Below.refl _ _).drew, y34⟩) : Below (w.heap.size + 2) w4 _)))); have RB := (show Rz _ (w.heap.size + 2) E1 f1 E2 f2 E3 f3 q.1 As cs Ap cp Ai ci x (.slice AA (is.length + 1) cA) (is.length + 1) (is.flatMap issCells ++ [.int .i64 q.2.1, .int .i64 q.2.2.1]) (.slice A5 is.length c5) is.length (is.flatMap refCells) from by repeat (first | with_reducible refine Rz.alloc ?_ _ | with_reducible refine Rz.drew ?_ | exact RA)).app5 hgB ownB; have hkB : ∀ gg tt css, Blk _ gg tt css → 32 ≠ tt → Blk wB gg tt css := fun gg tt css h ht => blk_ne h hgB (blk_row_ne h (show Rz _ (w.heap.size + 2) E1 f1 E2 f2 E3 f3 q.1 As cs Ap cp Ai ci x (.slice AA (is.length + 1) cA) (is.length + 1) (is.flatMap issCells ++ [.int .i64 q.2.1, .int .i64 q.2.2.1]) (.slice A5 is.length c5) is.length (is.flatMap refCells) from by repeat (first | with_reducible refine Rz.alloc ?_ _ | with_reducible refine Rz.drew ?_ | exact RA)).r5 ht); have DB := hkB _ _ _ (show Blk _ g 72 #[.int .i64 d.kind, .int .i64 d.size, .int .i64 d.which, .int .u64 (U d.ref)] from by repeat (first | with_reducible refine Blk.alloc ?_ _ | with_reducible refine Blk.drew ?_ | exact DA)) (by decide); have NB := hkB _ _ _ (show Blk _ (g + 1) 26 #[.slice E1 q.1.s.length f1, .slice E2 q.1.p.length f2, .slice E3 q.1.i.length f3] from by repeat (first | with_reducible refine Blk.alloc ?_ _ | with_reducible refine Blk.drew ?_ | exact NA)) (by decide)))
            all_goals as_aux_lemma =>
              go_wp2_with fail
              go_meet
              refine ⟨q.1, q.2.2.2, is ++ [⟨q.2.1, q.2.2.1, d.ref ||| 1#64⟩], E1, f1, E2, f2, E3, f3, AA, cA, AB, cB, by simp; omega, by simp, by simp, rfl, fun _ => HGD.out, fun hne => absurd HER.out hne, HST.out.grow hbB ⟨q.2.1, q.2.2.1, d.ref ||| 1#64⟩ RB.old RB.r4 RB.r5, NB, RB.own⟩
          · have e9 : (q.2.2.2 == 0) = false := beq_false_of_ne her
            have HNE := Lib.hid her
            clear her
            go_wp2_with fail
            go_meet
            exact ⟨q.1, q.2.2.2, is, E1, f1, E2, f2, E3, f3, A4, c4, A5, c5, by omega, rfl, rfl, rfl, fun he => absurd he HNE.out, fun _ => HG.out, st4, N4, O4⟩
        match r, hr2, h5 with
        | 0, _, _ => as_aux_lemma =>
            obtain ⟨q, hq⟩ : ∃ q, openL x (sz : Int) true = q := ⟨_, rfl⟩
            have HQ := Lib.hid hq
            clear hq
            go_wp2_with fail
            refine (enter_any As _ cs Ap _ cp Ai _ ci _ _ _ (sz : Int) _ st2.own.rd HLN.out.1 HLN.out.2.1 HLN.out.2.2).mono ?_
            rw [show openL ⟨x.s, x.p, x.i⟩ (sz : Int) true = q from HQ.out]
            rintro e w3 ⟨E1, f1, E2, f2, E3, f3, rfl, hown, hb3⟩
            have st3 := st2.belowU hb3
            have N3 := N2.below hb3
            have fx := N3.free
            have s0 := N3.cell 0 _ rfl
            have s1 := N3.cell 1 _ rfl
            have s2 := N3.cell 2 _ rfl
            have st4 := st3.far3 N3 (by omega) (.slice E1 q.1.s.length f1) (.slice E2 q.1.p.length f2) (.slice E3 q.1.i.length f3)
            have N4 := N3.put3 (.slice E1 q.1.s.length f1) (.slice E2 q.1.p.length f2) (.slice E3 q.1.i.length f3)
            have O4 := (hown.far3 (g := g + 1) (by omega) (.slice E1 q.1.s.length f1) (.slice E2 q.1.p.length f2) (.slice E3 q.1.i.length f3)).rebase (base' := w.heap.size + 2) (by omega)
            have hgood : q.2 = 0 → Good q.1 is := fun he => by rw [← HQ.out] at he ⊢; exact HG.out.openE he
            go_wp2_with fail
            go_meet
            exact ⟨q.1, q.2, is, E1, f1, E2, f2, E3, f3, A4, c4, A5, c5, by omega, rfl, rfl, rfl, hgood, fun _ => HG.out, st4, N4, O4⟩
        | 1, _, _ => as_aux_lemma =>
            obtain ⟨q, hq⟩ : ∃ q, openL x (sz : Int) false = q := ⟨_, rfl⟩
            have HQ := Lib.hid hq
            clear hq
            go_wp2_with fail
            refine (push_any As _ cs Ap _ cp Ai _ ci _ _ _ (sz : Int) _ st2.own.rd HLN.out.1 HLN.out.2.1 HLN.out.2.2).mono ?_
            rw [show openL ⟨x.s, x.p, x.i⟩ (sz : Int) false = q from HQ.out]
            rintro e w3 ⟨E1, f1, E2, f2, E3, f3, rfl, hown, hb3⟩
            have st3 := st2.belowU hb3
            have N3 := N2.below hb3
            have fx := N3.free
            have s0 := N3.cell 0 _ rfl
            have s1 := N3.cell 1 _ rfl
            have s2 := N3.cell 2 _ rfl
            have st4 := st3.far3 N3 (by omega) (.slice E1 q.1.s.length f1) (.slice E2 q.1.p.length f2) (.slice E3 q.1.i.length f3)
            have N4 := N3.put3 (.slice E1 q.1.s.length f1) (.slice E2 q.1.p.length f2) (.slice E3 q.1.i.length f3)
            have O4 := (hown.far3 (g := g + 1) (by omega) (.slice E1 q.1.s.length f1) (.slice E2 q.1.p.length f2) (.slice E3 q.1.i.length f3)).rebase (base' := w.heap.size + 2) (by omega)
            have hgood : q.2 = 0 → Good q.1 is := fun he => by rw [← HQ.out] at he ⊢; exact HG.out.openE he
            go_wp2_with fail
            go_meet
            exact ⟨q.1, q.2, is, E1, f1, E2, f2, E3, f3, A4, c4, A5, c5, by omega, rfl, rfl, rfl, hgood, fun _ => HG.out, st4, N4, O4⟩
        | 2, _, _ => as_aux_lemma =>
            obtain ⟨q, hq⟩ : ∃ q, popL x = q := ⟨_, rfl⟩
            have HQ := Lib.hid hq
            clear hq
            go_wp2_with fail
            refine (pop_any As _ cs Ap _ cp Ai _ ci _ _ _ _ st2.own.rd HLN.out.1 HLN.out.2.1 HLN.out.2.2).mono ?_
            rw [show popL ⟨x.s, x.p, x.i⟩ = q from HQ.out]
            rintro e w3 ⟨E1, f1, E2, f2, E3, f3, rfl, hown, hb3⟩
            have st3 := st2.belowU hb3
            have N3 := N2.below hb3
            have fx := N3.free
            have s0 := N3.cell 0 _ rfl
            have s1 := N3.cell 1 _ rfl
            have s2 := N3.cell 2 _ rfl
            have st4 := st3.far3 N3 (by omega) (.slice E1 q.1.s.length f1) (.slice E2 q.1.p.length f2) (.slice E3 q.1.i.length f3)
            have N4 := N3.put3 (.slice E1 q.1.s.length f1) (.slice E2 q.1.p.length f2) (.slice E3 q.1.i.length f3)
            have O4 := (hown.far3 (g := g + 1) (by omega) (.slice E1 q.1.s.length f1) (.slice E2 q.1.p.length f2) (.slice E3 q.1.i.length f3)).rebase (base' := w.heap.size + 2) (by omega)
            have hgood : q.2 = 0 → Good q.1 is := fun he => by rw [← HQ.out] at he ⊢; exact HG.out.popE he
            go_wp2_with fail
            go_meet
            exact ⟨q.1, q.2, is, E1, f1, E2, f2, E3, f3, A4, c4, A5, c5, by omega, rfl, rfl, rfl, hgood, fun _ => HG.out, st4, N4, O4⟩
        | 3, _, _ => as_aux_lemma =>
            obtain ⟨q, hq⟩ : ∃ q, leaveL x = q := ⟨_, rfl⟩
            have HQ := Lib.hid hq
            clear hq
            go_wp2_with fail
            refine (leave_any As _ cs Ap _ cp Ai _ ci _ _ _ _ st2.own.rd HLN.out.1 HLN.out.2.1 HLN.out.2.2).mono ?_
            rw [show leaveL ⟨x.s, x.p, x.i⟩ = q from HQ.out]
            rintro e w3 ⟨E1, f1, E2, f2, E3, f3, rfl, hown, hb3⟩
            have st3 := st2.belowU hb3
            have N3 := N2.below hb3
            have fx := N3.free
            have s0 := N3.cell 0 _ rfl
            have s1 := N3.cell 1 _ rfl
            have s2 := N3.cell 2 _ rfl
            have st4 := st3.far3 N3 (by omega) (.slice E1 q.1.s.length f1) (.slice E2 q.1.p.length f2) (.slice E3 q.1.i.length f3)
            have N4 := N3.put3 (.slice E1 q.1.s.length f1) (.slice E2 q.1.p.length f2) (.slice E3 q.1.i.length f3)
            have O4 := (hown.far3 (g := g + 1) (by omega) (.slice E1 q.1.s.length f1) (.slice E2 q.1.p.length f2) (.slice E3 q.1.i.length f3)).rebase (base' := w.heap.size + 2) (by omega)
            have hgood : q.2 = 0 → Good q.1 is := fun he => by rw [← HQ.out] at he ⊢; exact HG.out.leaveE he
            go_wp2_with fail
            go_meet
            exact ⟨q.1, q.2, is, E1, f1, E2, f2, E3, f3, A4, c4, A5, c5, by omega, rfl, rfl, rfl, hgood, fun _ => HG.out, st4, N4, O4⟩
        | 4, _, _ => as_aux_lemma =>
            by_cases hN : is.length = 0
            · have e4 : decide ((0 : Int) < (is.length : Int)) = false := decide_eq_false (by omega)
              have e5 : decide (0 < is.length) = false := decide_eq_false (by omega)
              go_wp2_with fail
              go_meet
              exact ⟨x, 0, is, As, cs, Ap, cp, Ai, ci, A4, c4, A5, c5, by omega, rfl, rfl, rfl, fun _ => HG.out, fun _ => HG.out, st2, N2, st2.own⟩
            obtain ⟨k, hk, hk2⟩ := tmod_wrap (a := d.which) (b := (is.length : Int)) (by omega)
            obtain ⟨hq0, hq1⟩ := tmod_range d.which (is.length : Int) (by omega)
            have e4 : decide ((0 : Int) < (is.length : Int)) = true := decide_eq_true (by omega)
            have e5 : decide (0 < is.length) = true := decide_eq_true (by omega)
            have e6 : ((is.length : Int) == 0) = false := beq_false_of_ne (by omega)
            have e7 : IntKind.i64.wrap (d.which.tmod (is.length : Int)) = d.which.tmod (is.length : Int) := IntWalk.i64_in _ (by omega)
            have e8 : IntKind.i64.wrap (d.which.tmod (is.length : Int) + (is.length : Int)) = d.which.tmod (is.length : Int) + (is.length : Int) := IntWalk.i64_in _ (by omega)
            have e9 : IntKind.i64.wrap (k : Int) = (k : Int) := IntWalk.i64_in _ (by omega)
            have hkl : k < is.length := by omega
            obtain ⟨h, hh⟩ : ∃ h, is[k]? = some h := ⟨_, List.getElem?_eq_getElem hkl⟩
            obtain ⟨g4, rfl⟩ : ∃ g4, A4 = some ⟨g4, 0, none⟩ := by
              rcases st2.iss.2 with ⟨-, hz⟩ | ⟨g, cap, cu, hg, -⟩
              · omega
              · injection hg with h1 h2 h3
                exact ⟨g, h1⟩
            have i0 : w2.cell? ⟨g4, k * 2, none⟩ = some (.int .i64 h.at_) := (st2.iss.cellAt (k * 2) (by omega)).trans (flat_at issCells 2 issCells_len is k 0 (by omega) h hh)
            have i1 : w2.cell? ⟨g4, k * 2 + 1, none⟩ = some (.int .i64 h.stamp) := (st2.iss.cellAt (k * 2 + 1) (by omega)).trans (flat_at issCells 2 issCells_len is k 1 (by omega) h hh)
            have k0 : (0 : Int) ≤ (k : Int) := by omega
            have k1 : (k : Int) < (is.length : Int) := by omega
            clear hq0 hq1 hh hN
            have hbq : Below w2.heap.size w2 (w2.alloc (.cells #[.int .i64 h.at_, .int .i64 h.stamp] 51)) := keep_alloc (Below.refl _ _) _
            have H3 := Blk.newAt w2 #[.int .i64 h.at_, .int .i64 h.stamp] 51 (g + 2) hs2
            have st2' := st2.belowU hbq
            have N2' := N2.below hbq
            have hs2' : (w2.alloc (.cells #[.int .i64 h.at_, .int .i64 h.stamp] 51)).heap.size = g + 3 := by simp [hs2]
            go_upto_region 26 with fail
            clear e1 e2 e3 e4 e5 e6 e7 e8 e9 i0 i1 y0 y1 y2 y3 l0 l1 l2 hbq hk
            obtain ⟨v2, hv2⟩ : ∃ v2, w2.alloc (.cells #[.int .i64 h.at_, .int .i64 h.stamp] 51) = v2 := ⟨_, rfl⟩
            rw [hv2] at H3 st2' N2' hs2' ⊢
            clear hv2
            have l0 := st2'.box.cell 0 _ rfl
            have l1 := st2'.box.cell 1 _ rfl
            have l2 := st2'.box.cell 2 _ rfl
            have j0 := H3.cell 0 _ rfl
            have j1 := H3.cell 1 _ rfl
            obtain ⟨q, hq⟩ : ∃ q, delL x h.at_ h.stamp = q := ⟨_, rfl⟩
            have HQ := Lib.hid hq
            clear hq
            go_wp2_with fail
            refine (delete_any As _ cs Ap _ cp Ai _ ci _ _ _ h.at_ h.stamp _ st2'.own.rd HLN.out.1 HLN.out.2.1 HLN.out.2.2).mono ?_
            rw [show delL ⟨x.s, x.p, x.i⟩ h.at_ h.stamp = q from HQ.out]
            rintro e w3 ⟨E1, f1, E2, f2, E3, f3, rfl, hown, hb3⟩
            have st3 := st2'.belowU hb3
            have N3 := N2'.below hb3
            have fx := N3.free
            have s0 := N3.cell 0 _ rfl
            have s1 := N3.cell 1 _ rfl
            have s2 := N3.cell 2 _ rfl
            have st4 := st3.far3 N3 (by omega) (.slice E1 q.1.s.length f1) (.slice E2 q.1.p.length f2) (.slice E3 q.1.i.length f3)
            have N4 := N3.put3 (.slice E1 q.1.s.length f1) (.slice E2 q.1.p.length f2) (.slice E3 q.1.i.length f3)
            have O4 := (hown.far3 (g := g + 1) (by omega) (.slice E1 q.1.s.length f1) (.slice E2 q.1.p.length f2) (.slice E3 q.1.i.length f3)).rebase (base' := w.heap.size + 2) (by omega)
            have hgood : q.2 = 0 → Good q.1 is := fun he => by rw [← HQ.out] at he ⊢; exact HG.out.delE he
            go_wp2_with fail
            go_meet
            exact ⟨q.1, q.2, is, E1, f1, E2, f2, E3, f3, _, c4, A5, c5, by omega, rfl, rfl, rfl, hgood, fun _ => HG.out, st4, N4, O4⟩
        | (r + 5), _, h => exact absurd (by omega) h
      case rest =>
        obtain ⟨y, er, is', Bs, ds, Bp, dp, Bi, di, A4', c4', A5', c5', hl', rfl, rfl, rfl, hg0, hg1, st3, N3, O3⟩ := hcut
        clear D2 N2 st2
        by_cases he : er = 0
        · subst he
          have HG3 := Lib.hid (hg0 rfl)
          clear hg0 hg1
          have st4 := st3.put O3
          have fb := st3.box.free
          have m0 := N3.cell 0 _ rfl
          have m1 := N3.cell 1 _ rfl
          have m2 := N3.cell 2 _ rfl
          have l0 := st3.box.cell 0 _ rfl
          have l1 := st3.box.cell 1 _ rfl
          have l2 := st3.box.cell 2 _ rfl
          go_upto_region 29 with fail
          obtain ⟨w5, hw5⟩ : ∃ w5, ((wc.setCell ⟨w.heap.size + 1, 0, none⟩ (.slice Bs y.s.length ds)).setCell ⟨w.heap.size + 1, 1, none⟩ (.slice Bp y.p.length dp)).setCell ⟨w.heap.size + 1, 2, none⟩ (.slice Bi y.i.length di) = w5 := ⟨_, rfl⟩
          rw [hw5] at st4 ⊢
          clear hw5 m0 m1 m2 l0 l1 l2 fb N3 O3 st3
          have l0 := st4.box.cell 0 _ rfl
          have l1 := st4.box.cell 1 _ rfl
          have l2 := st4.box.cell 2 _ rfl
          go_wp2_with fail
          refine (valid_any Bs _ ds Bp _ dp Bi _ di _ _ _ _ st4.own.rd).mono ?_
          rw [show validL y.s y.p y.i = true from HG3.out.valid]
          rintro e w6 ⟨rfl, hb6⟩
          have st6 := st4.belowU hb6
          clear l0 l1 l2
          go_wp2_with fail
          go_roundw
          case rel => exact ⟨i + 1, y, is', Bs, ds, Bp, dp, Bi, di, A4', c4', A5', c5', by omega, by omega, by omega, HG3.out, rfl, rfl, by go_num, st6⟩
          case measure => simp [intOf]; omega
        · have e9 : (er == 0) = false := beq_false_of_ne he
          have HG3 := Lib.hid (hg1 he)
          clear hg0 hg1 he O3 N3
          have l0 := st3.box.cell 0 _ rfl
          have l1 := st3.box.cell 1 _ rfl
          have l2 := st3.box.cell 2 _ rfl
          go_wp2_with fail
          refine (valid_any As _ cs Ap _ cp Ai _ ci _ _ _ _ st3.own.rd).mono ?_
          rw [show validL x.s x.p x.i = true from HG3.out.valid]
          rintro e w6 ⟨rfl, hb6⟩
          have st6 := st3.belowU hb6
          clear l0 l1 l2
          go_wp2_with fail
          go_roundw
          case rel => exact ⟨i + 1, x, is', As, cs, Ap, cp, Ai, ci, A4', c4', A5', c5', by omega, by omega, by omega, HG3.out, rfl, rfl, by go_num, st6⟩
          case measure => simp [intOf]; omega
    · have hd : ((decide ((i : Int) < (n : Int)) = false) ∧ decide (i < n) = false) ∨ (decide ((i : Int) < (n : Int)) = true ∧ decide (i < n) = true ∧ decide ((i : Int) < 100) = false ∧ decide (i < 100) = false) := by
        by_cases h : i < n
        · exact Or.inr ⟨decide_eq_true (by omega), decide_eq_true h, decide_eq_false (by omega), decide_eq_false (by omega)⟩
        · exact Or.inl ⟨decide_eq_false (by omega), decide_eq_false h⟩
      clear hend
      have HG := Lib.hid hG
      have HST := Lib.hid st
      have l0 := st.box.cell 0 _ rfl
      have l1 := st.box.cell 1 _ rfl
      have l2 := st.box.cell 2 _ rfl
      have r0 := st.res.cell 0 _ rfl
      have r1 := st.res.cell 1 _ rfl
      have r2 := st.res.cell 2 _ rfl
      have fr := st.res.free
      have G := st.res.put3 (.slice As x.s.length cs) (.slice Ap x.p.length cp) (.slice Ai x.i.length ci)
      have g20 := G.cell 0 _ rfl
      have g21 := G.cell 1 _ rfl
      have g22 := G.cell 2 _ rfl
      clear G hG st
      rcases hd with ⟨hd, hd2⟩ | ⟨hd, hd2, hd3, hd4⟩
      all_goals
        go_wp2_with fail
        refine bodyPost_ret (v := .tuple #[locV As x.s.length cs Ap x.p.length cp Ai x.i.length ci, .slice A4 is.length c4, .slice A5 is.length c5, .bool true]) (by simp [results, Try.results33, go_sem, g20, g21, g22]) rfl ?_
        exact ⟨x, is, As, cs, Ap, cp, Ai, ci, A4, c4, A5, c5, rfl, HG.out, by omega, HST.out.own.far3 (by omega) _ _ _, own_put3 HST.out.iss (by omega) _ _ _, own_put3 HST.out.ref (by omega) _ _ _, keep_put3 HST.out.bel (by omega) _ _ _⟩
end Go.Proofs.Ytmcdhpbkhchpeaa

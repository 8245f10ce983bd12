/- The walk of ScopeNests. Printed by mk_nests.py. -/
import Derived.Test.YtmcdhpbkhchpeaaScopePlay2
import Derived.Test.YtmcdhpbkhchpeaaScopeAwake
import Derived.Test.YtmcdhpbkhchpeaaScopeNest1
import Derived.Test.YtmcdhpbkhchpeaaScope15
import Derived.Test.YtmcdhpbkhchpeaaLag
namespace Go.Proofs.Ytmcdhpbkhchpeaa
open Go.ChangeShapes Go.WideShapes Go.RowKit Words

set_option linter.unusedSimpArgs false in
set_option maxRecDepth 100000 in
set_option maxHeartbeats 20000000 in
theorem walkScopeNests {H : Type} {enc : TypeId × Value → H} (W : World) (base : Nat) {v0 v1 v2 : Value} {d0 d1 d2 : DataW H} {p0 p1 p2 : List MemPlace}
    (o0 : Value.okWide Try.prog W .any base 47 v0) (h0 : DataW.Trod enc Try.prog W 0 (fun _ => true) true 47 v0 d0 p0)
    (o1 : Value.okWide Try.prog W .any base 3 v1) (h1 : DataW.Trod enc Try.prog W 0 (fun _ => true) true 3 v1 d1 p1)
    (o2 : Value.okWide Try.prog W .any base 38 v2) (h2 : DataW.Trod enc Try.prog W 0 (fun _ => true) true 38 v2 d2 p2) :
    Calls Try.prog 7 #[v0, v1, v2] W fun e w' => e = .returned (.bool true) ∧ Below W.heap.size W w' := by
  obtain ⟨A0, n, c0, acts, rfl, ha, hok⟩ := open_deeds o0 h0
  obtain ⟨sz, rfl, hz1, hz2⟩ := open_i64 Try.underlying3 o1 h1
  obtain ⟨Ar, nr, cr, rs, rfl, hr⟩ := open_words Try.underlying38 Try.underlying32 (by kernel_rfl) o2 h2
  clear h0 o0 h1 o1 h2 o2
  have hcap : nr ≤ 9223372036854775807 := by have h1 := hr.cap; have h2 := hr.le; unfold maxLen at h1; omega
  go_enter Try.func7, Try.ntmps7
  go_wp2_with fail
  refine (play_any A0 n c0 acts W ha hok).mono ?_
  rintro e w1 ⟨x, is, As, cs, Ap, cp, Ai, ci, A4, c4, A5, c5, rfl, hG, hil, hown, hiss, href, hB1⟩
  have L := Loc.mkNew (x := x) hown.rd
  have hba : Below w1.heap.size w1 (w1.alloc (.cells #[.slice As x.s.length cs, .slice Ap x.p.length cp, .slice Ai x.i.length ci] 26)) := keep_alloc (Below.refl _ _) _
  have hiss2 := own_keep hiss hba
  have href2 := own_keep href hba
  have hB2 := keep_below hba hB1
  have hdlt : w1.heap.size < (w1.alloc (.cells #[.slice As x.s.length cs, .slice Ap x.p.length cp, .slice Ai x.i.length ci] 26)).heap.size := by simp
  have HG := Lib.hid hG
  have HLN := Lib.hid hG.lens
  go_upto_region 4 with fail
  clear hba hown hiss href hB1 hG ha hok
  obtain ⟨w2, hw2⟩ : ∃ w2, w1.alloc (.cells #[.slice As x.s.length cs, .slice Ap x.p.length cp, .slice Ai x.i.length ci] 26) = w2 := ⟨_, rfl⟩
  obtain ⟨dl, hdl⟩ : ∃ dl, w1.heap.size = dl := ⟨_, rfl⟩
  rw [hw2, hdl] at L hdlt
  rw [hw2] at hiss2 href2 hB2
  rw [hw2, hdl]
  clear hw2 hdl
  have hr2 := hr.belowU hB2
  clear hr
  have l0 := L.box.cell 0 _ rfl
  have l1 := L.box.cell 1 _ rfl
  have l2 := L.box.cell 2 _ rfl
  obtain ⟨cz, hcz, hcz2⟩ := tmod_wrap (a := sz) (b := 65) (by omega)
  obtain ⟨hq0, hq1⟩ := tmod_range sz 65 (by omega)
  have wf1 : IntKind.i64.wrap (sz.tmod 65) = sz.tmod 65 := IntWalk.i64_in _ (by omega)
  have wf2 : IntKind.i64.wrap (sz.tmod 65 + 65) = sz.tmod 65 + 65 := IntWalk.i64_in _ (by omega)
  have wf3 : IntKind.i64.wrap (cz : Int) = (cz : Int) := IntWalk.i64_in _ (by omega)
  have hways := open_ways HG.out.valid (c := (cz : Int)) (by omega) (by omega)
  obtain ⟨q, hq⟩ : ∃ q, openL x (cz : Int) false = q := ⟨_, rfl⟩
  rw [hq] at hways
  have HQ := Lib.hid hq
  clear hq hq0 hq1
  go_wp2_with fail
  refine (push_any As _ cs Ap _ cp Ai _ ci _ _ _ (cz : Int) _ L.rd HLN.out.1 HLN.out.2.1 HLN.out.2.2).mono ?_
  rw [show openL ⟨x.s, x.p, x.i⟩ (cz : Int) false = q from HQ.out]
  rintro e w3 ⟨E1, e1, E2, e2, E3, e3, rfl, hown3, hb3⟩
  clear l0 l1 l2
  rcases hways with hbad | ⟨hgood, hnest⟩
  · rcases hbad with h9 | h9
    all_goals
      rw [h9]
      clear h9 hown3
      have hBB := Lib.hid (keep_alloc (keep_below hb3 hB2) (.cells #[.slice E1 q.1.s.length e1, .slice E2 q.1.p.length e2, .slice E3 q.1.i.length e3] 26))
      go_wp2_with fail
      refine (awake_any _).mono ?_
      rintro e w5 ⟨rfl, hb5⟩
      go_wp2_with fail
      go_ret
      exact ⟨rfl, keep_below hb5 hBB.out⟩
  rw [hgood]
  have L3 := L.belowU hb3
  have hdl3 : dl < w3.heap.size := Nat.lt_of_lt_of_le hdlt hb3.size
  have iss3 := own_keep hiss2 hb3
  have ref3 := own_keep href2 hb3
  have hr3 := hr2.belowU hb3
  have hB3 := keep_below hb3 hB2
  have LI := Loc.mkNew (x := q.1) hown3.rd
  have hba : Below w3.heap.size w3 (w3.alloc (.cells #[.slice E1 q.1.s.length e1, .slice E2 q.1.p.length e2, .slice E3 q.1.i.length e3] 26)) := keep_alloc (Below.refl _ _) _
  have hi3 : w3.heap.size < (w3.alloc (.cells #[.slice E1 q.1.s.length e1, .slice E2 q.1.p.length e2, .slice E3 q.1.i.length e3] 26)).heap.size := by simp
  clear L hdlt hiss2 href2 hr2 hB2 hown3 hb3 hgood
  go_upto_region 7 with fail
  clear hcz hcz2 wf1 wf2 wf3 hz1 hz2
  obtain ⟨w4, hw4⟩ : ∃ w4, w3.alloc (.cells #[.slice E1 q.1.s.length e1, .slice E2 q.1.p.length e2, .slice E3 q.1.i.length e3] 26) = w4 := ⟨_, rfl⟩
  rw [hw4] at LI hba hi3 ⊢
  clear hw4
  have LX : ∀ u, Below w3.heap.size w3 u → Loc u dl x As cs Ap cp Ai ci := fun u hu => L3.belowU hu
  have ISS : ∀ u, Below w3.heap.size w3 u → u.ownsRow (W.heap.size + 2) 51 2 (.slice A4 is.length c4) is.length (is.flatMap issCells) := fun u hu => own_keep iss3 hu
  have REF : ∀ u, Below w3.heap.size w3 u → u.ownsRow (W.heap.size + 2) 32 1 (.slice A5 is.length c5) is.length (is.flatMap refCells) := fun u hu => own_keep ref3 hu
  have RS : ∀ u, Below w3.heap.size w3 u → Reads u u.heap.size 1 Ar nr cr (rs.flatMap wordCells) := fun u hu => hr3.belowU hu
  clear L3 iss3 ref3 hr3
  obtain ⟨di, hdi⟩ : ∃ di, w3.heap.size = di := ⟨_, rfl⟩
  rw [hdi] at LI hi3 hdl3 hba LX ISS REF RS ⊢
  have HDI := Lib.hid hdi
  clear hdi
  go_wp2_with fail
  go_loopw [13] (fun s13 wq => ∃ (i : Nat) (y : Lc) (E1 : Option Addr) (e1 : Nat) (E2 : Option Addr) (e2 : Nat) (E3 : Option Addr) (e3 : Nat), i ≤ nr ∧ i ≤ 20 ∧ s13 = .int .i64 i ∧ Nest x y ∧ Loc wq di y E1 e1 E2 e2 E3 e3 ∧ Below di w3 wq ∧ di < wq.heap.size) (fun s13 _ => nr - (intOf s13).toNat)
  case atStart => exact ⟨0, q.1, E1, e1, E2, e2, E3, e3, by omega, by omega, rfl, hnest, LI, hba, hi3⟩
  case round =>
    clear LI hba hi3 hnest HQ
    obtain ⟨i, y, E1, e1, E2, e2, E3, e3, hi, hi2, rfl, hN, Ly, hbq, hdq⟩ := hrel
    have HN := Lib.hid hN
    have HYL := Lib.hid hN.v.lens
    clear hN
    by_cases hend : i < nr ∧ i < 20
    · obtain ⟨hin, hi20⟩ := hend
      have z1 : decide ((i : Int) < (nr : Int)) = true := decide_eq_true (by omega)
      have z2 : decide ((i : Int) < 20) = true := decide_eq_true (by omega)
      obtain ⟨b0, off0, d, rfl, hb0, hx, hc⟩ := (RS wr hbq).elem (f := wordCells) (fun _ => rfl) (by omega) hin
      have x0 := hc 0 _ rfl
      rw [Nat.mul_one, Nat.add_zero] at x0
      have hi0 : (0 : Int) ≤ (i : Int) := by omega
      have hi1 : (i : Int) < (nr : Int) := by omega
      have X0 : ∀ u, Below wr.heap.size wr u → u.cell? ⟨b0, off0 + i, none⟩ = some (.int .u64 (U d)) := fun u hu => keep_cell hu x0
      have LY : ∀ u, Below wr.heap.size wr u → Loc u di y E1 e1 E2 e2 E3 e3 := fun u hu => Ly.belowU hu
      have L0 : ∀ u, Below wr.heap.size wr u → u.cell? ⟨di, 0, none⟩ = some _ := fun u hu => (LY u hu).box.cell 0 _ rfl
      have L1 : ∀ u, Below wr.heap.size wr u → u.cell? ⟨di, 1, none⟩ = some _ := fun u hu => (LY u hu).box.cell 1 _ rfl
      have L2 : ∀ u, Below wr.heap.size wr u → u.cell? ⟨di, 2, none⟩ = some _ := fun u hu => (LY u hu).box.cell 2 _ rfl
      have hor := bits_or_one d
      clear hc hx x0
      go_upto_region 10 with fail
      go_cut [14, 15, 16, 17] from 64 to 75 (fun s14 s15 s16 s17 wx => ∃ (dN : Nat) (N1 : Option Addr) (n1 : Nat) (N2 : Option Addr) (n2 : Nat) (N3 : Option Addr) (n3 : Nat), s14 = .pointer (some ⟨dN, 0, none⟩) ∧ s15 = .int .i64 (newL y (d ||| 1#64)).2.1 ∧ s16 = .int .i64 (newL y (d ||| 1#64)).2.2.1 ∧ s17 = .int .i64 (newL y (d ||| 1#64)).2.2.2 ∧
        Below wr.heap.size wr wx ∧ Loc wx dN (newL y (d ||| 1#64)).1 N1 n1 N2 n2 N3 n3)
      case first => as_aux_lemma =>
        obtain ⟨q, hq⟩ : ∃ q, newL y (d ||| 1#64) = q := ⟨_, rfl⟩
        have HE := Lib.hid hq
        clear hq
        go_region_held3 (fun w' => Below wr.heap.size wr w') (first | assumption | exact (Below.refl _ _).drew | exact keep_alloc (by first | assumption | exact Below.refl _ _ | exact (Below.refl _ _).drew) _ | exact (keep_alloc (Below.refl _ _) _).drew | exact keep_put3 (by assumption) (Nat.le_refl _) _ _ _ | exact keep_put3 (by assumption) (by assumption) _ _ _)
          (first | (go_at_call 10; refine (new_any E1 _ e1 E2 _ e2 E3 _ e3 _ _ _ (d ||| 1#64) _ (LY _ (by assumption)).rd HYL.out.1 HYL.out.2.1 HYL.out.2.2).mono ?_; rw [show newL ⟨y.s, y.p, y.i⟩ (d ||| 1#64) = q from HE.out]; rintro e wN ⟨N1, n1, N2, n2, N3, n3, rfl, hoN, hbN0⟩; have hbN := keep_below hbN0 (by assumption); have hbNs := hbN.size; try (have nN := (Blk.new wr #[.slice none 0 0, .slice none 0 0, .slice none 0 0] 26).drew.below hbN0; have nN0 := nN.cell 0 _ rfl; have nN1 := nN.cell 1 _ rfl; have nN2 := nN.cell 2 _ rfl; have nNf := nN.free)))
        all_goals
          go_wp2_with fail
          go_meet
          rw [HE.out]
          exact ⟨_, N1, n1, N2, n2, N3, n3, rfl, rfl, rfl, rfl, by first | exact keep_alloc hbN _ | exact keep_put3 hbN (Nat.le_refl _) _ _ _, by first | exact Loc.mkNew hoN.rd | exact Loc.put3 (x := Lc.nil) ⟨nN, LRd.nil _⟩ hoN.rd⟩
      case rest => as_aux_lemma =>
        obtain ⟨dN, N1, n1, N2, n2, N3, n3, rfl, rfl, rfl, rfl, hbX, LN⟩ := hcut
        obtain ⟨q, hq⟩ : ∃ q, newL y (d ||| 1#64) = q := ⟨_, rfl⟩
        rw [hq] at LN ⊢
        have LyX := LY wc hbX
        have hb3c := hbq.trans (hbX.mono (Nat.le_of_lt hdq))
        have hdc : di < wc.heap.size := Nat.lt_of_lt_of_le hdq hbX.size
        clear LX ISS REF RS LY L0 L1 L2 X0 hor
        by_cases her : q.2.2.2 = 0
        · have e9 : (q.2.2.2 == 0) = true := by rw [her]; rfl
          have hn : Nest x q.1 := by rw [← hq] at her ⊢; exact HN.out.new her
          have st := LyX.put3 LN.rd
          have hbF := keep_put3 hb3c (Nat.le_refl _) (.slice N1 q.1.s.length n1) (.slice N2 q.1.p.length n2) (.slice N3 q.1.i.length n3)
          have hdF : di < (((wc.setCell ⟨di, 0, none⟩ (.slice N1 q.1.s.length n1)).setCell ⟨di, 1, none⟩ (.slice N2 q.1.p.length n2)).setCell ⟨di, 2, none⟩ (.slice N3 q.1.i.length n3)).heap.size := by simp; exact hdc
          have m0 := LN.box.cell 0 _ rfl
          have m1 := LN.box.cell 1 _ rfl
          have m2 := LN.box.cell 2 _ rfl
          have fb := LyX.box.free
          have l0 := LyX.box.cell 0 _ rfl
          have l1 := LyX.box.cell 1 _ rfl
          have l2 := LyX.box.cell 2 _ rfl
          have HH := Lib.hid (And.intro hn (And.intro st (And.intro hbF hdF)))
          clear hn st hbF hdF hq her hb3c hdc LyX LN
          go_wp2_with fail
          go_roundw
          case rel => exact ⟨i + 1, q.1, N1, n1, N2, n2, N3, n3, by omega, by omega, by go_num, HH.out⟩
          case measure => simp [intOf]; omega
        · have e9 : (q.2.2.2 == 0) = false := beq_false_of_ne her
          clear hq her LN
          go_wp2_with fail
          go_roundw
          case rel => exact ⟨i + 1, y, _, e1, E2, e2, E3, e3, by omega, by omega, by go_num, HN.out, LyX, hb3c, hdc⟩
          case measure => simp [intOf]; omega
    · have hd : ((decide ((i : Int) < (nr : Int)) = false) ∧ decide (i < nr) = false) ∨ (decide ((i : Int) < (nr : Int)) = true ∧ decide (i < nr) = true ∧ decide ((i : Int) < 20) = false ∧ decide (i < 20) = false) := by
        by_cases h : i < nr
        · exact Or.inr ⟨decide_eq_true (by omega), decide_eq_true h, decide_eq_false (by omega), decide_eq_false (by omega)⟩
        · exact Or.inl ⟨decide_eq_false (by omega), decide_eq_false h⟩
      clear hend
      have l0 := Ly.box.cell 0 _ rfl
      have l1 := Ly.box.cell 1 _ rfl
      have l2 := Ly.box.cell 2 _ rfl
      obtain ⟨hp0, hback⟩ := HN.out.pop
      obtain ⟨q, hq⟩ : ∃ q, popL y = q := ⟨_, rfl⟩
      rw [hq] at hp0 hback
      have HQ := Lib.hid hq
      have HBK := Lib.hid hback
      have ns : ((q.1.s.length : Int) != (x.s.length : Int)) = false := by rw [hback.s]; exact bne_self_eq_false _
      have np : ((q.1.p.length : Int) != (x.p.length : Int)) = false := by rw [hback.p]; exact bne_self_eq_false _
      have ns2 : (q.1.s.length != x.s.length) = false := by rw [hback.s]; exact bne_self_eq_false _
      have np2 : (q.1.p.length != x.p.length) = false := by rw [hback.p]; exact bne_self_eq_false _
      have hyrd := Ly.rd
      clear hq hback HN Ly RS
      rcases hd with ⟨hd, hd2⟩ | ⟨hd, hd2, hd3, hd4⟩
      all_goals as_aux_lemma =>
        go_wp2_with fail
        refine (pop_any E1 _ e1 E2 _ e2 E3 _ e3 _ _ _ _ hyrd HYL.out.1 HYL.out.2.1 HYL.out.2.2).mono ?_
        rw [show popL ⟨y.s, y.p, y.i⟩ = q from HQ.out]
        rintro e w5 ⟨O1, o1, O2, o2, O3, o3, rfl, hownO, hb5⟩
        have LO := Loc.mkNew (x := q.1) hownO.rd
        have hb35 := hbq.trans (hb5.mono (Nat.le_of_lt hdq))
        have hb36 := hb35.alloc (Nat.le_trans (Nat.le_of_lt hdq) hb5.size) (.cells #[.slice O1 q.1.s.length o1, .slice O2 q.1.p.length o2, .slice O3 q.1.i.length o3] 26)
        have hd6 : di < (w5.alloc (.cells #[.slice O1 q.1.s.length o1, .slice O2 q.1.p.length o2, .slice O3 q.1.i.length o3] 26)).heap.size := by have := hb5.size; simp; omega
        rw [hp0]
        clear hownO hb35 hp0 l0 l1 l2 hyrd hbq hdq hb5
        have LX6 := LX _ hb36
        have l0 := LX6.box.cell 0 _ rfl
        have l1 := LX6.box.cell 1 _ rfl
        have o0' := LO.box.cell 0 _ rfl
        have o1' := LO.box.cell 1 _ rfl
        go_upto_region 16 with fail
        obtain ⟨w6, hw6⟩ : ∃ w6, w5.alloc (.cells #[.slice O1 q.1.s.length o1, .slice O2 q.1.p.length o2, .slice O3 q.1.i.length o3] 26) = w6 := ⟨_, rfl⟩
        obtain ⟨dO, hdO⟩ : ∃ dO, w5.heap.size = dO := ⟨_, rfl⟩
        rw [hw6, hdO] at LO
        rw [hw6] at hb36 hd6 ⊢
        rw [hdO]
        clear hw6 hdO l0 l1 o0' o1' ns np ns2 np2 hd hd2 LX6
        have BT : ∀ u, Below w6.heap.size w6 u → Below di w3 u := fun u hu => hb36.trans (hu.mono (Nat.le_of_lt hd6))
        have LOU : ∀ u, Below w6.heap.size w6 u → Loc u dO q.1 O1 o1 O2 o2 O3 o3 := fun u hu => LO.belowU hu
        clear LO
        go_wp2_with fail
        go_loopw [20] (fun s20 wq => ∃ k : Nat, k ≤ is.length ∧ s20 = .int .i64 k ∧ Below w6.heap.size w6 wq) (fun s20 _ => is.length - (intOf s20).toNat)
        case atStart => exact ⟨0, by omega, rfl, Below.refl _ _⟩
        case round =>
          obtain ⟨k, hk, rfl, hbk⟩ := hrel
          by_cases hkl : k < is.length
          · obtain ⟨p, hp⟩ : ∃ p, is[k]? = some p := ⟨_, List.getElem?_eq_getElem hkl⟩
            obtain ⟨g4, rfl⟩ : ∃ g4, A4 = some ⟨g4, 0, none⟩ := by
              rcases (ISS _ hb36).2 with ⟨-, hz⟩ | ⟨g, cap, cu, hg, -⟩
              · omega
              · injection hg with h1 h2 h3
                exact ⟨g, h1⟩
            obtain ⟨g5, rfl⟩ : ∃ g5, A5 = some ⟨g5, 0, none⟩ := by
              rcases (REF _ hb36).2 with ⟨-, hz⟩ | ⟨g, cap, cu, hg, -⟩
              · omega
              · injection hg with h1 h2 h3
                exact ⟨g, h1⟩
            have e5 := flat_at refCells 1 refCells_len is k 0 (by omega) p hp
            rw [Nat.mul_one, Nat.add_zero] at e5
            have i0 : ∀ u, Below w6.heap.size w6 u → u.cell? ⟨g4, k * 2, none⟩ = some (.int .i64 p.at_) := fun u hu => ((ISS u (BT u hu)).cellAt (k * 2) (by omega)).trans (flat_at issCells 2 issCells_len is k 0 (by omega) p hp)
            have i1 : ∀ u, Below w6.heap.size w6 u → u.cell? ⟨g4, k * 2 + 1, none⟩ = some (.int .i64 p.stamp) := fun u hu => ((ISS u (BT u hu)).cellAt (k * 2 + 1) (by omega)).trans (flat_at issCells 2 issCells_len is k 1 (by omega) p hp)
            have i5 : ∀ u, Below w6.heap.size w6 u → u.cell? ⟨g5, k, none⟩ = some (.int .u64 (U p.ref)) := fun u hu => ((REF u (BT u hu)).cellAt k (by omega)).trans e5
            have m0 : (0 : Int) ≤ (k : Int) := by omega
            have m1 : (k : Int) < (is.length : Int) := by omega
            have hlt : decide ((k : Int) < (is.length : Int)) = true := decide_eq_true m1
            have hlt2 : decide (k < is.length) = true := decide_eq_true hkl
            have HGT := Lib.hid (HG.out.get hp)
            have HSAME := Lib.hid (HBK.out.get HG.out hp)
            have j0 := i0 _ hbk
            have j1 := i1 _ hbk
            have Lk := LX _ (BT _ hbk)
            have l0 := Lk.box.cell 0 _ rfl
            have l1 := Lk.box.cell 1 _ rfl
            have l2 := Lk.box.cell 2 _ rfl
            have hrd := Lk.rd
            clear e5 hp Lk
            go_upto_region 19 with fail
            have T0 := Lag.cell l0
            have T1 := Lag.cell l1
            have T2 := Lag.cell l2
            have D0 := Lag.cell j0
            have D1 := Lag.cell j1
            clear l0 l1 l2 j0 j1
            refine wp_region_lag (by kernel_rfl) (by kernel_rfl) ?_
            repeat (go_big_quiet_step ((go_at_call 28; exact Calls.lag (get_any As x.s.length cs Ap x.p.length cp Ai x.i.length ci x.s x.p x.i p.at_ p.stamp _ (hrd.belowU (Lag.h _))))))
            refine wpQuiet_nil ?_
            rintro w7 ⟨uu, hu⟩
            have hb7 : Below wr.heap.size wr w7 := hu ▸ uu.h
            clear hu uu T0 T1 T2 D0 D1 hrd
            have hb67 := keep_below hb7 hbk
            have j0 := i0 _ hb67
            have j1 := i1 _ hb67
            have Lk := LOU _ hb67
            have l0 := Lk.box.cell 0 _ rfl
            have l1 := Lk.box.cell 1 _ rfl
            have l2 := Lk.box.cell 2 _ rfl
            have hrd := Lk.rd
            clear Lk
            go_upto_region 20 with fail
            have T0 := Lag.cell l0
            have T1 := Lag.cell l1
            have T2 := Lag.cell l2
            have D0 := Lag.cell j0
            have D1 := Lag.cell j1
            clear l0 l1 l2 j0 j1
            refine wp_region_lag (by kernel_rfl) (by kernel_rfl) ?_
            repeat (go_big_quiet_step ((go_at_call 28; exact Calls.lag (get_any O1 q.1.s.length o1 O2 q.1.p.length o2 O3 q.1.i.length o3 q.1.s q.1.p q.1.i p.at_ p.stamp _ (hrd.belowU (Lag.h _))))))
            refine wpQuiet_nil ?_
            rintro w8 ⟨uu, hu⟩
            have hb8 : Below w7.heap.size w7 w8 := hu ▸ uu.h
            clear hu uu T0 T1 T2 D0 D1 hrd
            have hb68 := keep_below hb8 hb67
            have j5 := i5 _ hb68
            have hue : (U p.ref != U p.ref) = false := bne_self_eq_false _
            obtain ⟨gv, ge, hge⟩ : ∃ gv ge, getL x p.at_ p.stamp = (gv, ge) := ⟨_, _, rfl⟩
            rw [show getL ⟨q.1.s, q.1.p, q.1.i⟩ p.at_ p.stamp = (gv, ge) from HSAME.out.trans hge, show getL ⟨x.s, x.p, x.i⟩ p.at_ p.stamp = (gv, ge) from hge]
            have hor : (gv = p.ref ∧ ge = 0) ∨ ge = 7 ∨ ge = 8 := by
              rcases HGT.out with h | h | h
              · rw [hge] at h; injection h with h1 h2; exact Or.inl ⟨h1, h2⟩
              · rw [hge] at h; injection h with h1 h2; exact Or.inr (Or.inl h2)
              · rw [hge] at h; injection h with h1 h2; exact Or.inr (Or.inr h2)
            have hug : (U gv != U gv) = false := bne_self_eq_false _
            clear hge HGT HSAME
            dsimp only
            rcases hor with ⟨rfl, rfl⟩ | rfl | rfl
            all_goals
              go_wp2_with fail
              go_roundw
              case rel => exact ⟨k + 1, by omega, by go_num, hb68⟩
              case measure => simp [intOf]; omega
          · obtain rfl : k = is.length := by omega
            have hlt : decide ((is.length : Int) < (is.length : Int)) = false := by simp
            go_wp2_with fail
            refine (awake_any _).mono ?_
            rintro e w9 ⟨rfl, hb9⟩
            go_wp2_with fail
            go_ret
            refine ⟨rfl, ?_⟩
            have h1 := BT _ (keep_below hb9 hbk)
            exact hB3.trans (h1.mono (by rw [← HDI.out]; exact hB3.size))
end Go.Proofs.Ytmcdhpbkhchpeaa

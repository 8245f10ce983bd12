/- The walk of ScopeLife. Printed by mk_life14.py. -/
import Derived.Test.YtmcdhpbkhchpeaaScopePlay2
import Derived.Test.YtmcdhpbkhchpeaaScopeAwake
import Derived.Test.YtmcdhpbkhchpeaaPair
namespace Go.Proofs.Ytmcdhpbkhchpeaa
open Go.ChangeShapes Go.WideShapes Go.RowKit Words

def sameI (i t : Int) (g : Iss) : Bool := (g.at_ == i) && (g.stamp == t)
theorem any_take {α : Type} (l : List α) (f : α → Bool) (m : Nat) (a : α) (h : l[m]? = some a) : (l.take (m + 1)).any f = ((l.take m).any f || f a) := by
  obtain ⟨hm, rfl⟩ := List.getElem?_eq_some_iff.1 h
  rw [List.take_succ_eq_append_getElem hm, List.any_append]; simp
theorem cnt_take {α : Type} (l : List α) (f : α → Bool) (m : Nat) (a : α) (h : l[m]? = some a) : (l.take (m + 1)).countP f = (l.take m).countP f + (if f a = true then 1 else 0) := by
  obtain ⟨hm, rfl⟩ := List.getElem?_eq_some_iff.1 h
  rw [List.take_succ_eq_append_getElem hm, List.countP_append]; simp [List.countP_cons]
theorem pair_any (a b c d : Int) (w : World) : (Op.equalIn 10000 51 (.agg #[.int .i64 a, .int .i64 b]) (.agg #[.int .i64 c, .int .i64 d])).run Try.prog w = .ok ((a == c) && (b == d)) w := by
  by_cases h : a = c ∧ b = d
  · obtain ⟨rfl, rfl⟩ := h
    rw [pair_eq]; simp
  · rw [pair_ne h]
    congr 1
    symm
    rw [Bool.and_eq_false_iff]
    by_cases h1 : a = c
    · right; simp; exact fun e => h ⟨h1, e⟩
    · left; simp [h1]

set_option linter.unusedSimpArgs false in
set_option maxRecDepth 100000 in
set_option maxHeartbeats 20000000 in
theorem walkScopeLife {H : Type} {enc : TypeId × Value → H} (W : World) (base : Nat) {v0 v1 v2 : Value} {d0 d1 d2 : DataW H} {p0 p1 p2 : List MemPlace}
    (o0 : Value.okWide Try.prog W .any base 47 v0) (h0 : DataW.Trod enc Try.prog W 0 (fun _ => true) true 47 v0 d0 p0)
    (o1 : Value.okWide Try.prog W .any base 3 v1) (h1 : DataW.Trod enc Try.prog W 0 (fun _ => true) true 3 v1 d1 p1)
    (o2 : Value.okWide Try.prog W .any base 3 v2) (h2 : DataW.Trod enc Try.prog W 0 (fun _ => true) true 3 v2 d2 p2) :
    Calls Try.prog 8 #[v0, v1, v2] W fun e w' => e = .returned (.bool true) ∧ Below W.heap.size W w' := by
  obtain ⟨A0, n, c0, acts, rfl, ha, hok⟩ := open_deeds o0 h0
  obtain ⟨iz, rfl, -, -⟩ := open_i64 Try.underlying3 o1 h1
  obtain ⟨tz, rfl, -, -⟩ := open_i64 Try.underlying3 o2 h2
  clear h0 o0 h1 o1 h2 o2
  go_enter Try.func8, Try.ntmps8
  go_wp2_with fail
  refine (play_any A0 n c0 acts W ha hok).mono ?_
  rintro e w1 ⟨x, is, As, cs, Ap, cp, Ai, ci, A4, c4, A5, c5, rfl, hG, hil, hown, hiss, href, hB1⟩
  have L := Loc.mkNew (x := x) hown.rd
  have hba : Below w1.heap.size w1 (w1.alloc (.cells #[.slice As x.s.length cs, .slice Ap x.p.length cp, .slice Ai x.i.length ci] 26)) := keep_alloc (Below.refl _ _) _
  have hiss2 := own_keep hiss hba
  have href2 := own_keep href hba
  have hB2 := keep_below hba hB1
  have HG := Lib.hid hG
  have HLN := Lib.hid hG.lens
  go_upto_region 4 with fail
  clear hba hown hiss href hB1 hG ha hok
  obtain ⟨w2, hw2⟩ : ∃ w2, w1.alloc (.cells #[.slice As x.s.length cs, .slice Ap x.p.length cp, .slice Ai x.i.length ci] 26) = w2 := ⟨_, rfl⟩
  obtain ⟨dl, hdl⟩ : ∃ dl, w1.heap.size = dl := ⟨_, rfl⟩
  rw [hw2, hdl] at L
  rw [hw2] at hiss2 href2 hB2
  rw [hw2, hdl]
  clear hw2 hdl
  go_wp2_with fail
  go_loopw [11, 12, 13] (fun s11 s12 s13 wq => ∃ m : Nat, m ≤ is.length ∧ s13 = .int .i64 m ∧ s12 = .int .i64 ((is.take m).countP (aliveI x) : Nat) ∧ s11 = .bool ((is.take m).any (sameI iz tz)) ∧ Below w2.heap.size w2 wq) (fun _ _ z _ => is.length - (intOf z).toNat)
  case atStart => exact ⟨0, by omega, rfl, rfl, rfl, Below.refl _ _⟩
  case round =>
    obtain ⟨m, hm, rfl, rfl, rfl, hbm⟩ := hrel
    have Lm := L.belowU hbm
    obtain ⟨al, hal⟩ : ∃ al, (is.take m).countP (aliveI x) = al := ⟨_, rfl⟩
    obtain ⟨kn, hkn⟩ : ∃ kn, (is.take m).any (sameI iz tz) = kn := ⟨_, rfl⟩
    have halm : al ≤ m := by rw [← hal]; exact Nat.le_trans (List.countP_le_length) (by rw [List.length_take]; omega)
    rw [hal, hkn]
    have HAL := Lib.hid hal
    have HKN := Lib.hid hkn
    clear hal hkn
    by_cases hml : m < is.length
    · obtain ⟨q, hq⟩ : ∃ q, is[m]? = some q := ⟨_, List.getElem?_eq_getElem hml⟩
      obtain ⟨g4, rfl⟩ : ∃ g4, A4 = some ⟨g4, 0, none⟩ := by
        rcases hiss2.2 with ⟨-, hz⟩ | ⟨g, cap, cu, hg, -⟩
        · omega
        · injection hg with h1 h2 h3
          exact ⟨g, h1⟩
      obtain ⟨g5, rfl⟩ : ∃ g5, A5 = some ⟨g5, 0, none⟩ := by
        rcases href2.2 with ⟨-, hz⟩ | ⟨g, cap, cu, hg, -⟩
        · omega
        · injection hg with h1 h2 h3
          exact ⟨g, h1⟩
      have e5 := flat_at refCells 1 refCells_len is m 0 (by omega) q hq
      rw [Nat.mul_one, Nat.add_zero] at e5
      have i0 : ∀ u, Below w2.heap.size w2 u → u.cell? ⟨g4, m * 2, none⟩ = some (.int .i64 q.at_) := fun u hu => ((own_keep hiss2 hu).cellAt (m * 2) (by omega)).trans (flat_at issCells 2 issCells_len is m 0 (by omega) q hq)
      have i1 : ∀ u, Below w2.heap.size w2 u → u.cell? ⟨g4, m * 2 + 1, none⟩ = some (.int .i64 q.stamp) := fun u hu => ((own_keep hiss2 hu).cellAt (m * 2 + 1) (by omega)).trans (flat_at issCells 2 issCells_len is m 1 (by omega) q hq)
      have i5 : ∀ u, Below w2.heap.size w2 u → u.cell? ⟨g5, m, none⟩ = some (.int .u64 (U q.ref)) := fun u hu => ((own_keep href2 hu).cellAt m (by omega)).trans e5
      have j0 := i0 _ hbm
      have j1 := i1 _ hbm
      have l0 := Lm.box.cell 0 _ rfl
      have l1 := Lm.box.cell 1 _ rfl
      have l2 := Lm.box.cell 2 _ rfl
      have m0 : (0 : Int) ≤ (m : Int) := by omega
      have m1 : (m : Int) < (is.length : Int) := by omega
      have hlt : decide ((m : Int) < (is.length : Int)) = true := decide_eq_true m1
      have hlt2 : decide (m < is.length) = true := decide_eq_true hml
      have hw1 : IntKind.i64.wrap ((al : Int) + 1) = (al : Int) + 1 := IntWalk.i64_in _ (by omega)
      have HGT := Lib.hid (HG.out.get hq)
      have HQ := Lib.hid hq
      have hrd := Lm.rd
      have hpa := fun w => pair_any q.at_ q.stamp iz tz w
      clear e5 hq
      go_upto_region 9 with fail
      have T0 := Lag.cell l0
      have T1 := Lag.cell l1
      have T2 := Lag.cell l2
      have D0 := Lag.cell j0
      have D1 := Lag.cell j1
      clear l0 l1 l2 j0 j1
      refine wp_region_lag (by kernel_rfl) (by kernel_rfl) ?_
      repeat (go_big_quiet_step ((go_at_call 28; exact Calls.lag (get_any As x.s.length cs Ap x.p.length cp Ai x.i.length ci x.s x.p x.i q.at_ q.stamp _ (hrd.belowU (Lag.h _))))))
      refine wpQuiet_nil ?_
      rintro w3 ⟨uu, hu⟩
      have hb3 : Below wr.heap.size wr w3 := hu ▸ uu.h
      clear hu uu T0 T1 T2 D0 D1
      have hb23 := keep_below hb3 hbm
      have j0 := i0 _ hb23
      have j1 := i1 _ hb23
      have j5 := i5 _ hb23
      have hue : (U q.ref != U q.ref) = false := bne_self_eq_false _
      go_upto_region 10 with fail
      obtain ⟨gv, ge, hge⟩ : ∃ gv ge, getL x q.at_ q.stamp = (gv, ge) := ⟨_, _, rfl⟩
      have hge' : getL ⟨x.s, x.p, x.i⟩ q.at_ q.stamp = (gv, ge) := hge
      rw [hge']
      have hor : (gv = q.ref ∧ ge = 0) ∨ ge = 7 ∨ ge = 8 := by
        rcases HGT.out with h | h | h
        · rw [hge] at h; injection h with h1 h2; exact Or.inl ⟨h1, h2⟩
        · rw [hge] at h; injection h with h1 h2; exact Or.inr (Or.inl h2)
        · rw [hge] at h; injection h with h1 h2; exact Or.inr (Or.inr h2)
      have hali : aliveI x q = decide (ge = 0) := by unfold aliveI; rw [hge]
      have HALI := Lib.hid hali
      clear hge hge' HGT hali
      dsimp only
      go_cut [14, 15, 70] from 34 to 69 (fun s14 s15 s70 wx => s14 = .int .u64 (U gv) ∧ s15 = .int .i64 ge ∧ s70 = .bool false ∧ w3 = wx)
      case first =>
        rcases hor with ⟨rfl, rfl⟩ | rfl | rfl
        all_goals
          go_wp2_with fail
          go_meet
          exact ⟨rfl, rfl, rfl, rfl⟩
      case rest =>
        obtain ⟨rfl, rfl, rfl, rfl⟩ := hcut
        clear j5 hor
        have HAL2 := cnt_take is (aliveI x) m q HQ.out
        rw [HAL.out, HALI.out] at HAL2
        have HAL3 := Lib.hid HAL2
        have HKN2 := any_take is (sameI iz tz) m q HQ.out
        rw [HKN.out] at HKN2
        have HKN3 := Lib.hid HKN2
        clear HAL2 HKN2
        go_upto_if 72 with fail
        go_cut [12] from 73 to 74 (fun s12 wx => s12 = .int .i64 ((is.take (m + 1)).countP (aliveI x) : Nat) ∧ w3 = wx)
        case first =>
          by_cases hg0 : ge = 0
          · have hd : decide (ge = 0) = true := decide_eq_true hg0
            have hd2 : (ge == 0) = true := by rw [hg0]; rfl
            go_wp2_with fail
            go_meet
            refine ⟨?_, rfl⟩
            rw [HAL3.out, if_pos hd]; rfl
          · have hd : decide (ge = 0) = false := decide_eq_false hg0
            have hd2 : (ge == 0) = false := beq_false_of_ne hg0
            go_wp2_with fail
            go_meet
            refine ⟨?_, rfl⟩
            rw [HAL3.out, hd]; rfl
        case rest =>
          obtain ⟨rfl, rfl⟩ := hcut
          go_upto_region 14 with fail
          go_cut [11] from 75 to 85 (fun s11 wx => s11 = .bool ((is.take (m + 1)).any (sameI iz tz)) ∧ w3 = wx)
          case first =>
            cases kn with
            | true =>
              go_wp2_with fail
              go_meet
              exact ⟨by rw [HKN3.out]; rfl, rfl⟩
            | false =>
              go_wp2_with fail
              go_meet
              exact ⟨by rw [HKN3.out]; rfl, rfl⟩
          case rest =>
            obtain ⟨rfl, rfl⟩ := hcut
            clear hpa j0 j1
            go_wp2_with fail
            go_loopw [16] (fun s16 wq => ∃ k : Nat, k ≤ m ∧ s16 = .int .i64 k ∧ Below w3.heap.size w3 wq) (fun s16 _ => m - (intOf s16).toNat)
            case atStart => exact ⟨0, by omega, rfl, Below.refl _ _⟩
            case round =>
              obtain ⟨k, hk, rfl, hbk⟩ := hrel
              by_cases hkm : k < m
              · obtain ⟨p, hp⟩ : ∃ p, is[k]? = some p := ⟨_, List.getElem?_eq_getElem (by omega)⟩
                have hb2k := keep_below hbk hb23
                have j0 := i0 _ hb2k
                have j1 := i1 _ hb2k
                have k0 := ((own_keep hiss2 hb2k).cellAt (k * 2) (by omega)).trans (flat_at issCells 2 issCells_len is k 0 (by omega) p hp)
                have k1 := ((own_keep hiss2 hb2k).cellAt (k * 2 + 1) (by omega)).trans (flat_at issCells 2 issCells_len is k 1 (by omega) p hp)
                simp only [issCells, List.getElem?_cons_zero, List.getElem?_cons_succ] at k0 k1
                have n0 : (0 : Int) ≤ (k : Int) := by omega
                have n1 : (k : Int) < (is.length : Int) := by omega
                have hkt : decide ((k : Int) < (m : Int)) = true := decide_eq_true (by omega)
                have hkt2 : decide (k < m) = true := decide_eq_true hkm
                have hpn := fun w => pair_ne (a := p.at_) (b := p.stamp) (c := q.at_) (d := q.stamp) (fun h => by have := HG.out.apart hp HQ.out h.2; omega) w
                have HBK := Lib.hid hbk
                clear hp hb2k hbk
                go_upto_region 18 with fail
                have D0 := Lag.cell j0
                have D1 := Lag.cell j1
                have F0 := Lag.cell k0
                have F1 := Lag.cell k1
                clear j0 j1 k0 k1
                refine wp_region_lag (by kernel_rfl) (by kernel_rfl) ?_
                repeat (go_big_quiet_step (fail))
                refine wpQuiet_nil ?_
                rintro w4 ⟨uu, hu⟩
                have hb4 : Below wr.heap.size wr w4 := hu ▸ uu.h
                clear hu uu hpn
                go_wp2_with fail
                go_roundw
                case rel => exact ⟨k + 1, by omega, by go_num, keep_below hb4 HBK.out⟩
                case measure => simp [intOf]; omega
              · obtain rfl : k = m := by omega
                have hkt : decide ((k : Int) < (k : Int)) = false := by simp
                go_wp2_with fail
                go_roundw
                case rel => exact ⟨k + 1, by omega, by go_num, rfl, rfl, keep_below hbk hb23⟩
                case measure => simp [intOf]; omega
    · obtain rfl : m = is.length := by omega
      have hlt : decide ((is.length : Int) < (is.length : Int)) = false := by simp
      have hali := HG.out.alive
      have hal := HAL.out
      have hkn := HKN.out
      rw [List.take_length] at hal hkn
      have hre : refsL ⟨x.s, x.p, x.i⟩ = liveRefs x.s := by unfold refsL; rw [if_pos HG.out.valid]
      have hlen : (refsL ⟨x.s, x.p, x.i⟩).length = al := by rw [hre, ← hali, hal]
      have HLEN := Lib.hid hlen
      have hfg : kn = true ∨ getL x iz tz = (0#64, 6) := by
        cases hk : kn with
        | true => exact Or.inl rfl
        | false =>
          refine Or.inr (HG.out.forged fun g hg ⟨e1, e2⟩ => ?_)
          rw [hk, List.any_eq_false] at hkn
          have := hkn g hg
          apply this
          unfold sameI
          rw [e1, e2]; simp
      have hS : x.s.length ≤ 1000000 := by have := HLN.out; omega
      have l0 := Lm.box.cell 0 _ rfl
      have l1 := Lm.box.cell 1 _ rfl
      have l2 := Lm.box.cell 2 _ rfl
      have hrd := Lm.rd
      clear hali hal hkn hre hlen halm hm
      go_wp2_with fail
      refine (get_any As x.s.length cs Ap x.p.length cp Ai x.i.length ci x.s x.p x.i iz tz _ hrd).mono ?_
      rintro e w3 ⟨rfl, hb3⟩
      obtain ⟨gv, ge, hge⟩ : ∃ gv ge, getL ⟨x.s, x.p, x.i⟩ iz tz = (gv, ge) := ⟨_, _, rfl⟩
      have hor : kn = true ∨ ge = 6 := by
        rcases hfg with h | h
        · exact Or.inl h
        · have h' : getL ⟨x.s, x.p, x.i⟩ iz tz = (0#64, 6) := h
          rw [hge] at h'; injection h' with h1 h2; exact Or.inr h2
      rw [hge]
      clear hge hfg
      unfold retG
      dsimp only
      go_wp2_with fail
      refine (awake_any _).mono ?_
      rintro e w4 ⟨rfl, hb4⟩
      have hb24 := keep_below hb4 hb3
      have L4 := Lm.belowU hb24
      have HB := Lib.hid (keep_below hb24 hbm)
      have l0 := L4.box.cell 0 _ rfl
      have l1 := L4.box.cell 1 _ rfl
      have l2 := L4.box.cell 2 _ rfl
      have hrd4 := L4.rd
      clear hrd hb3 hb4 hbm Lm L4 hb24
      cases kn with
      | true =>
        clear hor
        go_wp2_with fail
        refine (refs_any As x.s.length cs Ap x.p.length cp Ai x.i.length ci x.s x.p x.i _ hrd4 hS).mono ?_
        rintro e w5 ⟨A5', c5', rfl, -, hb5⟩
        rw [HLEN.out]
        go_wp2_with fail
        go_ret
        exact ⟨rfl, keep_below (keep_below hb5 HB.out) hB2⟩
      | false =>
        have hg6 : ge = 6 := by rcases hor with h | h; cases h; exact h
        subst hg6
        clear hor
        go_wp2_with fail
        refine (refs_any As x.s.length cs Ap x.p.length cp Ai x.i.length ci x.s x.p x.i _ hrd4 hS).mono ?_
        rintro e w5 ⟨A5', c5', rfl, -, hb5⟩
        rw [HLEN.out]
        go_wp2_with fail
        go_ret
        exact ⟨rfl, keep_below (keep_below hb5 HB.out) hB2⟩
end Go.Proofs.Ytmcdhpbkhchpeaa

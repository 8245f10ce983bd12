/- The walk of McodeExact. -/
import Derived.Test.YtnnchinpmnpfiaaDoorKWMcodeChecks
import Derived.Test.YtnnchinpmnpfiaaDoorKExact
namespace Go.Proofs.YtnnchinpmnpfiaaDoor
open Go.ChangeShapes Go.WideShapes Go.RowKit Words

set_option linter.unusedSimpArgs false in
set_option linter.unusedVariables false in
set_option maxRecDepth 100000 in
set_option maxHeartbeats 8000000 in
theorem walkMcodeExact {H : Type} {enc : TypeId × Value → H} (W : World) (base : Nat) (hPl : Plain W) {v0 v1 : Value} {d0 d1 : DataW H} {p0 p1 : List MemPlace}
    (o0 : Value.okWide Tryd.prog W .any base 24 v0) (h0 : DataW.Trod enc Tryd.prog W 0 (fun _ => true) true 24 v0 d0 p0)
    (o1 : Value.okWide Tryd.prog W .any base 24 v1) (h1 : DataW.Trod enc Tryd.prog W 0 (fun _ => true) true 24 v1 d1 p1) :
    Calls Tryd.prog 4 #[v0, v1] W fun e w' => e = .returned (.bool true) ∧ Below W.heap.size W w' := by
  obtain ⟨TA, tn, tc, tl, rfl, hTr, -⟩ := open_i64s Tryd.underlying24 Tryd.underlying3 (by kernel_rfl) o0 h0
  obtain ⟨UA, un, uc, ul, rfl, hUr, -⟩ := open_i64s Tryd.underlying24 Tryd.underlying3 (by kernel_rfl) o1 h1
  clear o0 h0 o1 h1
  have HM := Lib.hid (made_any TA tn tc tl UA un uc ul W hTr hUr)
  have HPL := Lib.hid hPl
  clear hTr hUr hPl
  go_enter Tryd.func4, Tryd.ntmps4
  go_wp2_with fail
  refine HM.out.mono ?_
  rintro e w2 ⟨S1, ns1, cs1, F1, nf1, cf1, N1, nn1, cn1, fcs1, P1, S2, ns2, cs2, F2, nf2, cf2, N2, nn2, cn2, fcs2, P2, rfl, hP1, hK1, hP2, hK2, hB2⟩
  have hba : Below w2.heap.size w2 ((w2.alloc (.cells #[.slice S1 ns1 cs1, .slice F1 nf1 cf1, .slice N1 nn1 cn1] 26)).alloc (.cells #[.slice S2 ns2 cs2, .slice F2 nf2 cf2, .slice N2 nn2 cn2] 26)) := keep_alloc (keep_alloc (Below.refl _ _) _) _
  have A2 := Blk.newAt (w2.alloc (.cells #[.slice S1 ns1 cs1, .slice F1 nf1 cf1, .slice N1 nn1 cn1] 26)) #[.slice S2 ns2 cs2, .slice F2 nf2 cf2, .slice N2 nn2 cn2] 26 (w2.heap.size + 1) (by simp)
  have hP3 := hP2.below hba
  have hB3 := keep_below hba hB2
  clear HM hP1 hK1 hP2
  go_upto_region 2 with fail
  obtain ⟨w3, hw3⟩ : ∃ w3, ((w2.alloc (.cells #[.slice S1 ns1 cs1, .slice F1 nf1 cf1, .slice N1 nn1 cn1] 26)).alloc (.cells #[.slice S2 ns2 cs2, .slice F2 nf2 cf2, .slice N2 nn2 cn2] 26)) = w3 := ⟨_, rfl⟩
  rw [hw3] at A2 hP3 hB3 ⊢
  obtain ⟨a, ha⟩ : ∃ a, w2.heap.size + 1 = a := ⟨_, rfl⟩
  rw [ha] at A2 ⊢
  clear hw3 ha hba hB2
  have y0 := A2.cell 0 _ rfl
  have y1 := A2.cell 1 _ rfl
  have y2 := A2.cell 2 _ rfl
  have HG := Lib.hid (given_any S2 ns2 cs2 F2 nf2 cf2 N2 nn2 cn2 P2 fcs2 w3 hP3 hK2)
  have HK := Lib.hid hK2
  clear hK2
  go_wp2_with fail
  refine HG.out.mono ?_
  rintro e w4 ⟨F', cf', fcs', rfl, hP', hb4⟩
  have HCK := Lib.hid (check_any 16 8 S2 ns2 cs2 F' nf2 cf' N2 nn2 cn2 P2 fcs' w4 (HPL.out.below (keep_below hb4 hB3)) hP' HK.out)
  clear HG y0 y1 y2 hP'
  go_wp2_with fail
  refine HCK.out.mono ?_
  rintro e w5 ⟨rfl, hb5⟩
  have hB5 := keep_below hb5 (keep_below hb4 hB3)
  by_cases hc : checkB P2 16 8 = true
  · have n1 : (checkE P2 16 8 != 0) = false := by rw [checkE_yes hc]; rfl
    have HC := Lib.hid hc
    clear hc HCK
    have hP5 := hP3.below (keep_below hb5 hb4)
    have A5 := (A2.below hb4).below hb5
    have hlF := hP5.fns.length fcCells_len (by omega)
    have hlf : P2.fns.length = nf2 := by have := hP5.each.1; omega
    have hnf : nf2 ≤ 1000000 := by have := HK.out.nf; omega
    have HLF := Lib.hid hlf
    clear hlF hlf hP3 A2 hb4 hb5 hB3
    go_wp2_with fail
    go_loopw [7] (fun x wq => ∃ i : Nat, i ≤ nf2 ∧ x = .int .i64 i ∧ Below w5.heap.size w5 wq) (fun x _ => nf2 - (intOf x).toNat)
    case atStart => exact ⟨0, Nat.zero_le _, rfl, Below.refl _ _⟩
    case round =>
      obtain ⟨i, hi, rfl, hb⟩ := hrel
      have A6 := A5.below hb
      have hP6 := hP5.below hb
      have q1 := A6.cell 1 _ rfl
      by_cases hlt : i < nf2
      · obtain ⟨bF, oF, x, hFe, hbF, hx, hcF⟩ := hP6.fns.elem fcCells_len (by omega) hlt
        obtain ⟨f, hf⟩ : ∃ f, P2.fns[i]? = some f := ⟨_, List.getElem?_eq_getElem (by have := HLF.out; omega)⟩
        have hat := hP6.each.2 i x f hx hf
        obtain ⟨p, A, n, c, r, B, m, d⟩ := x
        have f0 := hcF 0 _ rfl
        have f1 := hcF 1 _ rfl
        have f2 := hcF 2 _ rfl
        have f3 := hcF 3 _ rfl
        rw [Nat.add_zero] at f0
        dsimp only at f0 f1 f2 f3
        have k0 : (0 : Int) ≤ (i : Int) := by omega
        have k1 : (i : Int) < (nf2 : Int) := by omega
        have hd1 : decide ((i : Int) < (nf2 : Int)) = true := decide_eq_true k1
        have hd2 : decide (i < nf2) = true := decide_eq_true hlt
        have wi : IntKind.i64.wrap ((i : Int) + 1) = (i : Int) + 1 := IntWalk.i64_in _ (by omega)
        have HX := Lib.hid hx
        have HFF := Lib.hid hf
        have HAT := Lib.hid hat
        subst hFe
        clear hcF hx hf hat hbF
        have hba : Below wr.heap.size wr (wr.alloc (.cells #[.int .i64 p, .slice A n c, .int .i64 r, .slice B m d] 44)) := keep_alloc (Below.refl _ _) _
        have D7 := Blk.new wr #[.int .i64 p, .slice A n c, .int .i64 r, .slice B m d] 44
        have HB7 := Lib.hid (keep_below hba hb)
        have A7 := A6.below hba
        have hP7 := hP6.below hba
        go_wp2_with fail
        obtain ⟨w6, hw6⟩ : ∃ w6, wr.alloc (.cells #[.int .i64 p, .slice A n c, .int .i64 r, .slice B m d] 44) = w6 := ⟨_, rfl⟩
        rw [hw6] at D7 HB7 A7 hP7 ⊢
        obtain ⟨bf, hbf⟩ : ∃ bf, wr.heap.size = bf := ⟨_, rfl⟩
        rw [hbf] at D7 ⊢
        clear hw6 hbf hba f0 f1 f2 f3 q1 A6 hP6 hb
        go_loopw [9] (fun y wq => ∃ k : Nat, k ≤ m ∧ y = .int .i64 k ∧ Below w6.heap.size w6 wq) (fun y _ => m - (intOf y).toNat)
        case atStart => exact ⟨0, Nat.zero_le _, rfl, Below.refl _ _⟩
        case round =>
          obtain ⟨k, hk, rfl, hb⟩ := hrel
          have D8 := D7.below hb
          have g3 := D8.cell 3 _ rfl
          by_cases hlk : k < m
          · have hP8 := hP7.below hb
            have hat8 := hP8.each.2 i _ _ HX.out HFF.out
            obtain ⟨bI, oI, y, hBe, -, hy, hcI⟩ := hat8.ins.elem insCells_len (by omega) hlk
            obtain ⟨xo, xa, xb, xc, xk⟩ := y
            have e0 := hcI 0 _ rfl
            have e1 := hcI 1 _ rfl
            have e2 := hcI 2 _ rfl
            have e3 := hcI 3 _ rfl
            have e4 := hcI 4 _ rfl
            rw [Nat.add_zero] at e0
            dsimp only at e0 e1 e2 e3 e4
            have A8 := A7.below hb
            have q0 : wr.cell? ⟨a, 0, none⟩ = some (.slice S2 ns2 cs2) := A8.cell 0 _ rfl
            have q1 : wr.cell? ⟨a, 1, none⟩ = some (.slice (some ⟨bF, oF, none⟩) nf2 cf2) := A8.cell 1 _ rfl
            have q2 : wr.cell? ⟨a, 2, none⟩ = some (.slice N2 nn2 cn2) := A8.cell 2 _ rfl
            have g0 : wr.cell? ⟨bf, 0, none⟩ = some (.int .i64 p) := D8.cell 0 _ rfl
            have g1 : wr.cell? ⟨bf, 1, none⟩ = some (.slice A n c) := D8.cell 1 _ rfl
            have g2 : wr.cell? ⟨bf, 2, none⟩ = some (.int .i64 r) := D8.cell 2 _ rfl
            have kk0 : (0 : Int) ≤ (k : Int) := by omega
            have kk1 : (k : Int) < (m : Int) := by omega
            have he1 : decide ((k : Int) < (m : Int)) = true := decide_eq_true kk1
            have he2 : decide (k < m) = true := decide_eq_true hlk
            subst hBe
            obtain ⟨n1, ls, ks, hn1, hll, hlk', hex, hKc⟩ := kinds_for (HPL.out.below (keep_below hb (keep_below HB7.out hB5))) hP8 HK.out HC.out HX.out HFF.out hy
            have hflen : f.ins.length = m := hat8.ins.length insCells_len (by omega)
            rw [hflen] at hKc
            dsimp only at hKc
            have HKC := Lib.hid hKc
            have HPX := Lib.hid (fun u (hu : Below wr.heap.size wr u) => hP8.below hu)
            have HFI := Lib.hid (fun u (hu : Below wr.heap.size wr u) => hat8.ins.belowU hu)
            have hloc := hat8.locs
            have HLO := Lib.hid hloc
            have HLL := Lib.hid hll
            have HLK := Lib.hid hlk'
            have HEX := Lib.hid hex
            have HFL := Lib.hid hflen
            have hm : m ≤ 1000000 := by have := (HK.out.fns f (List.mem_of_getElem? HFF.out)).ni; omega
            have HMM := Lib.hid hm
            have HBr := Lib.hid (keep_below hb HB7.out)
            have hZ : Below wr.heap.size wr wr := Below.refl _ _
            have HB := Lib.hid hb
            have n11 : ((n1 : Int) != (n1 : Int)) = false := by simp
            clear hKc hP8 hat8 hloc hll hlk' hex hflen hm hy hcI A8 D8 hb
            go_wp2_with fail
            go_region_held3 (fun w' => w'.cell? ⟨a, 0, none⟩ = some (.slice S2 ns2 cs2) ∧ w'.cell? ⟨a, 1, none⟩ = some (.slice (some ⟨bF, oF, none⟩) nf2 cf2) ∧ w'.cell? ⟨a, 2, none⟩ = some (.slice N2 nn2 cn2) ∧ w'.cell? ⟨bf, 0, none⟩ = some (.int .i64 p) ∧ w'.cell? ⟨bf, 1, none⟩ = some (.slice A n c) ∧ w'.cell? ⟨bf, 2, none⟩ = some (.int .i64 r) ∧ w'.cell? ⟨bf, 3, none⟩ = some (.slice (some ⟨bI, oI, none⟩) m d) ∧ w'.cell? ⟨bI, oI + k * 5, none⟩ = some (.int .i64 xo) ∧ w'.cell? ⟨bI, oI + k * 5 + 1, none⟩ = some (.int .i64 xa) ∧ w'.cell? ⟨bI, oI + k * 5 + 2, none⟩ = some (.int .i64 xb) ∧ w'.cell? ⟨bI, oI + k * 5 + 3, none⟩ = some (.int .i64 xc) ∧ w'.cell? ⟨bI, oI + k * 5 + 4, none⟩ = some (.int .u64 (U xk)) ∧ Below wr.heap.size wr w')
              (first | (go_split_ands; refine ⟨?_, ?_, ?_, ?_, ?_, ?_, ?_, ?_, ?_, ?_, ?_, ?_, ?_⟩ <;> first | assumption | (refine keep_cell hb ?_; assumption) | (refine keep_below hb ?_; assumption) | (refine Below.drew ?_; assumption)) | go_keep)
              (first
                | (go_at_call 9; refine (given_any S2 ns2 cs2 _ nf2 cf2 N2 nn2 cn2 P2 fcs2 _ (HPX.out _ (by go_split_ands; assumption)) HK.out).mono ?_; rintro e w' ⟨F', cf', fcs', rfl, hP', hb⟩)
                | (go_at_call 13; refine (function_any p A n c r _ m d f.ins _ (HFI.out _ (by go_split_ands; assumption)) HMM.out).mono ?_; rw [show (RetFn _ p A n c r f.ins) = _ from rfl]; rintro e w' ⟨B7, d7, rfl, R7, hb⟩; rw [HFL.out]; have hP' := hP'.below hb)
                | (go_at_call 14; refine (ins_any ⟨xo, xa, xb, xc, xk⟩ _).mono ?_; rintro e w' ⟨rfl, hb⟩; have hP' := hP'.below hb)
                | (go_at_call 12; refine (HKC.out _ _ _ _ _ _ (by go_split_ands; assumption) hP').mono ?_; rintro e w' ⟨A9, c9, B9, d9, rfl, R8, R9, hb⟩))
            rename_i hHeld
            obtain ⟨-, -, -, -, h13, -, -, -, -, -, -, -, hV⟩ := hHeld
            have wk : IntKind.i64.wrap ((k : Int) + 1) = (k : Int) + 1 := IntWalk.i64_in _ (by have := HMM.out; omega)
            have hH8 := keep_below hV HB.out
            have HB8 := Lib.hid hH8
            have HV := Lib.hid hV
            clear q0 q1 q2 g0 g1 g2 g3 e0 e1 e2 e3 e4 hZ hP' R7 hb hH8 hV
            go_wp2_with fail
            go_loopw [13] (fun z wq => ∃ q : Nat, q ≤ n1 ∧ z = .int .i64 q ∧ Below w'.heap.size w' wq) (fun z _ => n1 - (intOf z).toNat)
            case atStart => exact ⟨0, Nat.zero_le _, rfl, Below.refl _ _⟩
            case round =>
              obtain ⟨q, hq, rfl, hb⟩ := hrel
              by_cases hlq : q < n1
              · have hloc := ((HLO.out.belowU HV.out).belowU hb)
                have hll := hloc.length (f := intCells) (fun _ => rfl) (by omega)
                obtain ⟨b1, o1, z, hA9, -, hz, hc1⟩ := (R8.belowU hb).elem (f := intCells) (fun _ => rfl) (by omega) hlq
                obtain ⟨b2, o2, y, hB9, -, hy, hc2⟩ := (R9.belowU hb).elem (f := intCells) (fun _ => rfl) (by omega) hlq
                have d0 := hc1 0 _ rfl
                have e0 := hc2 0 _ rfl
                rw [Nat.mul_one, Nat.add_zero] at d0 e0
                obtain ⟨hz0, y', hy', hly⟩ := HEX.out q z hz
                obtain rfl : y' = y := Option.some.inj (hy'.symm.trans hy)
                obtain ⟨zn, rfl⟩ : ∃ zn : Nat, z = zn := ⟨z.toNat, by omega⟩
                rw [Int.toNat_natCast] at hly
                have hzn : zn < n := by have := (List.getElem?_eq_some_iff.1 hly).1; omega
                obtain ⟨b3, o3, u, hA, -, hu, hc3⟩ := hloc.elem (f := intCells) (fun _ => rfl) (by omega) hzn
                obtain rfl : u = y' := Option.some.inj (hu.symm.trans hly)
                have u0 := hc3 0 _ rfl
                rw [Nat.mul_one, Nat.add_zero] at u0
                have f1 := keep_cell hb h13
                subst hA9 hB9 hA
                have hz1 : decide ((n : Int) ≤ (zn : Int)) = false := decide_eq_false (by omega)
                have hz2 : decide (n ≤ zn) = false := decide_eq_false (by omega)
                have hzp : decide ((zn : Int) < 0) = false := decide_eq_false (by omega)
                have hz3 : (0 : Int) ≤ (zn : Int) := by omega
                have hz4 : (zn : Int) < (n : Int) := by omega
                have hq0 : (0 : Int) ≤ (q : Int) := by omega
                have hq1 : (q : Int) < (n1 : Int) := by omega
                have hd3 : decide ((q : Int) < (n1 : Int)) = true := decide_eq_true hq1
                have hd4 : decide (q < n1) = true := decide_eq_true hlq
                have hw : IntKind.i64.wrap ((q : Int) + 1) = (q : Int) + 1 := IntWalk.i64_in _ (by omega)
                have hne : (u != u) = false := by simp
                clear hz hy hc1 hc2 hc3 hu hloc hll hy' hly
                go_upto_region 17 with fail
                have F1 := Lag.cell f1
                have D0 := Lag.cell d0
                have E0 := Lag.cell e0
                have U0 := Lag.cell u0
                clear f1 d0 e0 u0
                refine wp_region_lag (by kernel_rfl) (by kernel_rfl) ?_
                repeat (go_big_quiet_step (fail))
                refine wpQuiet_nil ?_
                rintro w9 ⟨uu, hu⟩
                have hb5 := keep_below (hu ▸ uu.h : Below wr.heap.size wr w9) hb
                clear hu uu F1 E0 U0 D0
                go_wp2_with fail
                go_roundw
                case rel => exact ⟨q + 1, by omega, by go_num, hb5⟩
                case measure => simp [intOf]; omega
              · have hqn : q = n1 := by omega
                subst hqn
                have hd3 : decide ((q : Int) < (q : Int)) = false := by simp
                have hd4 : decide (q < q) = false := by simp
                have HB9 := Lib.hid (keep_below hb HB8.out)
                clear hlq hb
                go_wp2_with fail
                go_roundw
                case rel => exact ⟨k + 1, by omega, by go_num, HB9.out⟩
                case measure => simp [intOf]; omega
          · have hkm : k = m := by omega
            subst hkm
            have he1 : decide ((k : Int) < (k : Int)) = false := by simp
            have he2 : decide (k < k) = false := by simp
            have HBr := Lib.hid (keep_below hb HB7.out)
            clear hlk hb
            go_wp2_with fail
            go_roundw
            case rel => exact ⟨i + 1, by omega, by go_num, HBr.out⟩
            case measure => simp [intOf]; omega
      · have hin : i = nf2 := by omega
        subst hin
        have hd1 : decide ((i : Int) < (i : Int)) = false := by simp
        have hd2 : decide (i < i) = false := by simp
        have hBr := keep_below hb hB5
        clear hlt hb
        go_wp2_with fail
        refine (awake_any _).mono ?_
        rintro e w6 ⟨rfl, hb6⟩
        go_wp2_with fail
        go_ret
        exact ⟨rfl, keep_below hb6 hBr⟩
  · have hc' : checkB P2 16 8 = false := by simpa using hc
    have n1 : (checkE P2 16 8 != 0) = true := by rw [checkE_no hc']; rfl
    clear hc hc' HCK
    go_wp2_with fail
    refine (awake_any _).mono ?_
    rintro e w6 ⟨rfl, hb6⟩
    go_wp2_with fail
    go_ret
    exact ⟨rfl, keep_below hb6 hB5⟩
end Go.Proofs.YtnnchinpmnpfiaaDoor

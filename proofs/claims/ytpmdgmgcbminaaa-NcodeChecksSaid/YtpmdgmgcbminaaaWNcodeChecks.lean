/- The walk of NcodeChecks. -/
import Derived.Test.YtpmdgmgcbminaaaMade
import Derived.Test.YtpmdgmgcbminaaaNcode4
import Derived.Test.YtpmdgmgcbminaaaNCheck2
import Derived.Test.YtpmdgmgcbminaaaNBent
import Derived.Deep.RegionHeld3
namespace Go.Proofs.Ytpmdgmgcbminaaa
open Go.ChangeShapes Go.WideShapes Go.RowKit Words

/-- a made program is right -/
theorem check_fit {g : Int} {l : List NI} {fl : List Int} (hg : 0 ≤ g ∧ g ≤ 3) (hl : l.length ≤ 57) (h : ∀ x ∈ l, Fit l.length fl x) : checkN g l fl = 0 := by
  have hf : formedC g l = true := by
    unfold formedC
    rw [decide_eq_true hg.1, decide_eq_true hg.2, decide_eq_true (show l.length ≤ 256 by omega)]
    simp only [Bool.true_and, Bool.and_true]
    exact List.all_eq_true.2 fun x hx => (h x hx).form
  refine checkN_ok rfl hf (List.all_eq_true.2 fun x hx => ?_)
  have hx := h x hx
  obtain ⟨op, a, b, c, k⟩ := x
  obtain ⟨⟨h1, h2⟩, -, ⟨hb0, hb1⟩, hc0, hc1⟩ := (formedI_iff _).1 hx.form
  have hj := hx.jump
  have hr := hx.regs
  have hc := hx.call
  have hu := hx.up
  dsimp only at h1 h2 hb0 hb1 hc0 hc1 hj hr hc hu
  have t1 : targetsI l.length ⟨op, a, b, c, k⟩ = true := by
    unfold targetsI jumps
    by_cases h : op = 9 ∨ op = 10
    · simp only [decide_eq_true (hj h)]; simp
    · simp only [decide_eq_false h]; rfl
  have t2 : regsI ⟨op, a, b, c, k⟩ = true := by
    unfold regsI takesBI
    by_cases h : (2 ≤ op ∧ op ≤ 8) ∨ op = 11 ∨ op = 12
    · simp only [decide_eq_true h, if_true]; have := hr h; simp; omega
    · simp only [decide_eq_false h]
      by_cases h13 : op = 13
      · simp [h13, (hc h13).2]
      · simp [h13]
  have t3 : callI ⟨op, a, b, c, k⟩ = true := by
    unfold callI
    by_cases h13 : op = 13
    · simp [h13, (hc h13).1]
    · simp [h13]
  have t4 : upI fl ⟨op, a, b, c, k⟩ = true := by
    unfold upI
    by_cases h14 : op = 14
    · obtain ⟨p, hp, hpc⟩ := hu h14
      simp only [hp]
      simp; omega
    · simp [h14]
  rw [right_split _ _ _ _ _ _ _ t1 t2 t3 t4]
  rfl
theorem neq_self_int (x : Int) : (x != x) = false := by simp

set_option linter.unusedSimpArgs false in
set_option maxRecDepth 100000 in
set_option maxHeartbeats 4000000 in
theorem walkNcodeChecks {H : Type} {enc : TypeId × Value → H} (W : World) (base : Nat) {v0 v1 v2 v3 : Value} {d0 d1 d2 d3 : DataW H} {p0 p1 p2 p3 : List MemPlace}
    (o0 : Value.okWide Try.prog W .any base 27 v0) (h0 : DataW.Trod enc Try.prog W 0 (fun _ => true) true 27 v0 d0 p0)
    (o1 : Value.okWide Try.prog W .any base 29 v1) (h1 : DataW.Trod enc Try.prog W 0 (fun _ => true) true 29 v1 d1 p1)
    (o2 : Value.okWide Try.prog W .any base 29 v2) (h2 : DataW.Trod enc Try.prog W 0 (fun _ => true) true 29 v2 d2 p2)
    (o3 : Value.okWide Try.prog W .any base 29 v3) (h3 : DataW.Trod enc Try.prog W 0 (fun _ => true) true 29 v3 d3 p3) :
    Calls Try.prog 6 #[v0, v1, v2, v3] W fun e w' => e = .returned (.bool true) ∧ Below W.heap.size W w' := by
  obtain ⟨g, A, n, c, l, rfl, -, h, -⟩ := open_code o0 h0
  obtain ⟨At, k, ct, tl, rfl, ht, -⟩ := open_i64s Try.underlying29 Try.underlying3 (by kernel_rfl) o1 h1
  obtain ⟨Ao, ko, co, ol, rfl, ho, -⟩ := open_i64s Try.underlying29 Try.underlying3 (by kernel_rfl) o2 h2
  obtain ⟨F, nf, cf, fl, rfl, hF, -⟩ := open_i64s Try.underlying29 Try.underlying3 (by kernel_rfl) o3 h3
  clear h0 o0 h1 o1 h2 o2 h3 o3
  have hB0 : Below W.heap.size W (W.alloc (.cells #[.int .i64 g, .slice A n c] 27)) := code_alloc W _ g A n c
  have X0 := Blk.new W #[.int .i64 g, .slice A n c] 27
  have q0 := X0.cell 0 _ rfl
  have q1 := X0.cell 1 _ rfl
  by_cases hn : 400 < n
  · have hd : decide ((400 : Int) < (n : Int)) = true := by simp; omega
    go_enter Try.func6, Try.ntmps6
    go_wp2_with fail
    go_ret
    exact ⟨rfl, hB0⟩
  by_cases hm : 300 < nf
  · have hd : decide ((400 : Int) < (n : Int)) = false := by simp; omega
    have hd2 : decide ((300 : Int) < (nf : Int)) = true := by simp; omega
    go_enter Try.func6, Try.ntmps6
    go_wp2_with fail
    go_ret
    exact ⟨rfl, hB0⟩
  have hd : decide ((400 : Int) < (n : Int)) = false := by simp; omega
  have hd2 : decide ((300 : Int) < (nf : Int)) = false := by simp; omega
  have hn1 : n ≤ 1000000 := by omega
  have HN := Lib.hid hn1
  have hlen := h.length insCells_len (by omega)
  obtain rfl : n = l.length := hlen.symm
  clear hn hm hn1 hlen
  have htU := ht.belowU hB0
  have HTU := Lib.hid htU
  clear htU
  go_enter Try.func6, Try.ntmps6
  go_wp2_with fail
  clear hd hd2
  refine (made_any At k ct tl _ HTU.out).mono ?_
  rintro e w2 ⟨g2, l2, A2, c2, rfl, hr2, hl2, hg2, hfit2, hb2⟩
  have hB2 := keep_below hb2 hB0
  have X2 := X0.below hb2
  have hB3 := keep_alloc hB2 (.cells #[.int .i64 g2, .slice A2 l2.length c2] 27)
  have hr3 := hr2.belowU (keep_alloc (Below.refl _ _) (.cells #[.int .i64 g2, .slice A2 l2.length c2] 27))
  have Y3 := Blk.new w2 #[.int .i64 g2, .slice A2 l2.length c2] 27
  have X3 := X2.alloc (.cells #[.int .i64 g2, .slice A2 l2.length c2] 27)
  have y0 := Y3.cell 0 _ rfl
  have y1 := Y3.cell 1 _ rfl
  have ho3 := ho.belowU hB3
  have hl2' : l2.length ≤ 1000000 := by omega
  have HN2 := Lib.hid hl2'
  have HFit := Lib.hid (check_fit hg2 hl2 hfit2)
  clear hb2 hB2 X2 hr2 X0 q0 q1 hg2 hl2 hl2' hfit2 hB0
  go_wp2_with fail
  obtain ⟨dx, hdx⟩ : ∃ dx, w2.heap.size = dx := ⟨_, rfl⟩
  obtain ⟨w3, hw3⟩ : ∃ w3, w2.alloc (.cells #[.int .i64 g2, .slice A2 l2.length c2] 27) = w3 := ⟨_, rfl⟩
  rw [hw3] at hB3 hr3 Y3 X3 y0 y1 ho3 ⊢
  rw [hdx] at Y3 y0 y1 ⊢
  clear hw3 hdx
  refine (bent_any g2 A2 _ c2 l2 Ao ko co ol w3 hr3 ho3 HN2.out).mono ?_
  rintro e w4 ⟨g4, l4, A4, c4, rfl, hr4, hl4, hb4⟩
  have hB4 := keep_below hb4 hB3
  have X4 := X3.below hb4
  have Y4 := Y3.below hb4
  have hx4 := hr3.belowU hb4
  have hn4 : l4.length ≤ 1000000 := by have := HN2.out; omega
  have HN4 := Lib.hid hn4
  clear hn4 hl4 hb4 y0 y1
  go_wp2_with fail
  have X5 := ((X4.alloc (.cells #[.int .i64 g4, .slice A4 l4.length c4] 27)).alloc (.cells #[.int .i64 0, .int .i64 1, .int .i64 2] 3)).alloc (.cells #[.slice F nf cf, .slice (some ⟨w4.heap.size + 1, 0, none⟩) 3 3] 29)
  have Y5 := ((Y4.alloc (.cells #[.int .i64 g4, .slice A4 l4.length c4] 27)).alloc (.cells #[.int .i64 0, .int .i64 1, .int .i64 2] 3)).alloc (.cells #[.slice F nf cf, .slice (some ⟨w4.heap.size + 1, 0, none⟩) 3 3] 29)
  have Z5 := ((Blk.new w4 #[.int .i64 g4, .slice A4 l4.length c4] 27).alloc (.cells #[.int .i64 0, .int .i64 1, .int .i64 2] 3)).alloc (.cells #[.slice F nf cf, .slice (some ⟨w4.heap.size + 1, 0, none⟩) 3 3] 29)
  have F5 := Blk.newAt ((w4.alloc (.cells #[.int .i64 g4, .slice A4 l4.length c4] 27)).alloc (.cells #[.int .i64 0, .int .i64 1, .int .i64 2] 3)) #[.slice F nf cf, .slice (some ⟨w4.heap.size + 1, 0, none⟩) 3 3] 29 (w4.heap.size + 2) (by simp)
  have N5 := Reads.freshAt (w4.alloc (.cells #[.int .i64 g4, .slice A4 l4.length c4] 27)) #[.int .i64 0, .int .i64 1, .int .i64 2] 3 1 3 (([0, 1, 2] : List Int).flatMap intCells) (w4.heap.size + 1) (by simp) rfl rfl (by decide)
  have hb5 : Below w4.heap.size w4 (((w4.alloc (.cells #[.int .i64 g4, .slice A4 l4.length c4] 27)).alloc (.cells #[.int .i64 0, .int .i64 1, .int .i64 2] 3)).alloc (.cells #[.slice F nf cf, .slice (some ⟨w4.heap.size + 1, 0, none⟩) 3 3] 29)) := keep_alloc (keep_alloc (keep_alloc (Below.refl _ _) _) _) _
  have N6 := N5.belowU (keep_alloc (Below.refl _ _) (.cells #[.slice F nf cf, .slice (some ⟨w4.heap.size + 1, 0, none⟩) 3 3] 29))
  have hB5 := keep_below hb5 hB4
  have hx5 := hx4.belowU hb5
  have hy5 := hr4.belowU hb5
  obtain ⟨dy, hdy⟩ : ∃ dy, w4.heap.size = dy := ⟨_, rfl⟩
  rw [hdy] at X5 Y5 Z5 F5 N6 hb5 hB5 hx5 hy5 ⊢
  obtain ⟨w5, hw5⟩ : ∃ w5, ((w4.alloc (.cells #[.int .i64 g4, .slice A4 l4.length c4] 27)).alloc (.cells #[.int .i64 0, .int .i64 1, .int .i64 2] 3)).alloc (.cells #[.slice F nf cf, .slice (some ⟨dy + 1, 0, none⟩) 3 3] 29) = w5 := ⟨_, rfl⟩
  rw [hw5] at X5 Y5 Z5 F5 N6 hb5 hB5 hx5 hy5 ⊢
  have h5 := h.belowU hB5
  have hF5 := hF.belowU hB5
  clear hw5 hdy X4 Y4 N5 hx4 hr4 hB4 hb5 X3 Y3 hr3 ho3 hB3 h hF ht ho
  go_loopw [33] (fun x wq => ∃ q : Nat, q ≤ 2 ∧ x = .int .i64 q ∧ Below w5.heap.size w5 wq) (fun x _ => 2 - (intOf x).toNat)
  case atStart => exact ⟨0, by omega, rfl, Below.refl _ _⟩
  case round =>
    obtain ⟨q, hq, rfl, hb⟩ := hrel
    have hBr := keep_below hb hB5
    have Fr := F5.below hb
    have Xr := X5.below hb
    have Yr := Y5.below hb
    have Zr := Z5.below hb
    by_cases hq2 : q < 2
    · obtain ⟨Ff, nff, cff, flf, f0, hff⟩ : ∃ (Ff : Option Addr) (nff cff : Nat) (flf : List Int), wr.cell? ⟨dy + 2, q, none⟩ = some (.slice Ff nff cff) ∧ Reads wr wr.heap.size 1 Ff nff cff (flf.flatMap intCells) := by
        match q, hq2 with
        | 0, _ => exact ⟨_, _, _, fl, Fr.cell 0 _ rfl, hF5.belowU hb⟩
        | 1, _ => exact ⟨_, _, _, [0, 1, 2], Fr.cell 1 _ rfl, N6.belowU hb⟩
      have hq0 : (0 : Int) ≤ (q : Int) := by omega
      have hq1 : (q : Int) < 2 := by omega
      have x0 := Xr.cell 0 _ rfl
      have x1 := Xr.cell 1 _ rfl
      have y0 := Yr.cell 0 _ rfl
      have y1 := Yr.cell 1 _ rfl
      have z0 := Zr.cell 0 _ rfl
      have z1 := Zr.cell 1 _ rfl
      have D7 := Blk.new wr #[.int .i64 g, .slice A l.length c, .int .i64 g2, .slice A2 l2.length c2, .int .i64 g4, .slice A4 l4.length c4] 27
      have hb7 : Below wr.heap.size wr (wr.alloc (.cells #[.int .i64 g, .slice A l.length c, .int .i64 g2, .slice A2 l2.length c2, .int .i64 g4, .slice A4 l4.length c4] 27)) := keep_alloc (Below.refl _ _) _
      have hff7 := hff.belowU hb7
      have hx7 := (hx5.belowU hb).belowU hb7
      have hy7 := (hy5.belowU hb).belowU hb7
      have h7 := (h5.belowU hb).belowU hb7
      have hb57 := keep_below hb7 hb
      clear hff Fr Xr Yr Zr hBr X5 Y5 Z5 F5 N6 hB5 hx5 hy5 h5 hF5
      go_wp2_with fail
      obtain ⟨d7, hd7⟩ : ∃ d7, wr.heap.size = d7 := ⟨_, rfl⟩
      obtain ⟨w7, hw7⟩ : ∃ w7, wr.alloc (.cells #[.int .i64 g, .slice A l.length c, .int .i64 g2, .slice A2 l2.length c2, .int .i64 g4, .slice A4 l4.length c4] 27) = w7 := ⟨_, rfl⟩
      rw [hw7] at D7 hff7 hx7 hy7 h7 hb57 ⊢
      rw [hd7] at D7 ⊢
      clear hw7 hd7 hb7 x0 x1 y0 y1 z0 z1 f0
      go_loopw [42] (fun x wq => ∃ i : Nat, i ≤ 3 ∧ x = .int .i64 i ∧ Below w7.heap.size w7 wq) (fun x _ => 3 - (intOf x).toNat)
      case atStart => exact ⟨0, by omega, rfl, Below.refl _ _⟩
      case round =>
        obtain ⟨i, hi, rfl, hbi⟩ := hrel
        by_cases hi3 : i < 3
        · obtain ⟨gz, Az, cz, lz, z0, z1, hz, hzn⟩ : ∃ (gz : Int) (Az : Option Addr) (cz : Nat) (lz : List NI), wr.cell? ⟨d7, i * 2, none⟩ = some (.int .i64 gz) ∧ wr.cell? ⟨d7, i * 2 + 1, none⟩ = some (.slice Az lz.length cz) ∧ Reads wr wr.heap.size 5 Az lz.length cz (lz.flatMap insCells) ∧ lz.length ≤ 1000000 := by
            have Dr := D7.below hbi
            match i, hi3 with
            | 0, _ => exact ⟨_, _, _, l, Dr.cell 0 _ rfl, Dr.cell 1 _ rfl, h7.belowU hbi, HN.out⟩
            | 1, _ => exact ⟨_, _, _, l2, Dr.cell 2 _ rfl, Dr.cell 3 _ rfl, hx7.belowU hbi, HN2.out⟩
            | 2, _ => exact ⟨_, _, _, l4, Dr.cell 4 _ rfl, Dr.cell 5 _ rfl, hy7.belowU hbi, HN4.out⟩
          have hi0 : (0 : Int) ≤ (i : Int) := by omega
          have hi1 : (i : Int) < 3 := by omega
          have hffr := hff7.belowU hbi
          have X8 := Blk.new wr #[.int .i64 gz, .slice Az lz.length cz] 27
          have hz8 := hz.belowU (code_alloc wr 27 gz Az lz.length cz)
          have hf8 := hffr.belowU (code_alloc wr 27 gz Az lz.length cz)
          have hb8 := keep_alloc hbi (.cells #[.int .i64 gz, .slice Az lz.length cz] 27)
          have HB8 := Lib.hid hb8
          have HZN := Lib.hid hzn
          have hneq := neq_self_int (checkN gz lz flf)
          clear hffr hz hff7 hx7 hy7 h7 D7 hb8 hbi
          go_wp2_with fail
          obtain ⟨d8, hd8⟩ : ∃ d8, wr.heap.size = d8 := ⟨_, rfl⟩
          obtain ⟨w8, hw8⟩ : ∃ w8, wr.alloc (.cells #[.int .i64 gz, .slice Az lz.length cz] 27) = w8 := ⟨_, rfl⟩
          rw [hw8] at X8 hz8 hf8 HB8 ⊢
          rw [hd8] at X8 ⊢
          clear hw8 hd8 z0 z1
          have L0 : ∀ u, Below w8.heap.size w8 u → u.cell? ⟨d8, 0, none⟩ = some (.int .i64 gz) := fun u hu => (X8.below hu).cell 0 _ rfl
          have L1 : ∀ u, Below w8.heap.size w8 u → u.cell? ⟨d8, 1, none⟩ = some (.slice Az lz.length cz) := fun u hu => (X8.below hu).cell 1 _ rfl
          go_region_held3 (fun w' => Below w8.heap.size w8 w')
            (first | exact (Below.refl _ _).drew | exact keep_below hbC (by assumption) | exact keep_below hbR (by assumption) | exact keep_below hbG (by assumption))
            (first
              | (go_at_call 14; refine (given_any gz Az _ cz lz _ (hz8.belowU (by assumption)) HZN.out).mono ?_; rintro e wG ⟨AG, cG, rfl, hrG, hbG⟩)
              | (go_at_call 22; refine (check_any gz AG _ cG lz Ff nff cff flf _ (by first | exact hrG | exact hrG.belowU hbR) (hf8.belowU (by assumption)) HZN.out).mono ?_; rintro e wC ⟨rfl, hbC⟩)
              | (go_at_call 23; refine (rcheck_any gz Az _ cz lz Ff nff cff flf _ (hz8.belowU (by assumption)) (hf8.belowU (by assumption)) HZN.out).mono ?_; rintro e wR ⟨rfl, hbR⟩))
          all_goals
            go_wp2_with fail
            go_roundw
            case rel => exact ⟨i + 1, by omega, by go_num, keep_below (by assumption) HB8.out⟩
            case measure => simp [intOf]; omega
        · have hi2 : i = 3 := by omega
          subst hi2
          go_wp2_with fail
          go_roundw
          case rel => exact ⟨q + 1, by omega, by go_num, keep_below hbi hb57⟩
          case measure => simp [intOf]; omega
    · have hq3 : q = 2 := by omega
      subst hq3
      have hxr := hx5.belowU hb
      clear X5 Z5 F5 N6 hy5 h5 hF5 Fr Xr Zr
      go_wp2_with fail
      refine (awake_any _).mono ?_
      rintro e wA ⟨rfl, hbA⟩
      have YA := Yr.below hbA
      have y0 := YA.cell 0 _ rfl
      have y1 := YA.cell 1 _ rfl
      have hxA := hxr.belowU hbA
      have hBA := keep_below hbA hBr
      go_wp2_with fail
      refine (given_any g2 A2 _ c2 l2 _ hxA HN2.out).mono ?_
      rintro e wG ⟨AG, cG, rfl, hrG, hbG⟩
      have hBG := keep_below hbG hBA
      have hN := Reads.freshAs wG #[.int .i64 0, .int .i64 1, .int .i64 2] 3 1 3 (([0, 1, 2] : List Int).flatMap intCells) rfl rfl (by decide)
      have hrG' := hrG.belowU (keep_alloc (Below.refl _ _) (.cells #[.int .i64 0, .int .i64 1, .int .i64 2] 3))
      have hBN := keep_alloc hBG (.cells #[.int .i64 0, .int .i64 1, .int .i64 2] 3)
      go_wp2_with fail
      refine (check_any g2 AG _ cG l2 _ 3 3 [0, 1, 2] _ hrG' hN HN2.out).mono ?_
      rw [HFit.out]
      rintro e wC ⟨rfl, hbC⟩
      go_wp2_with fail
      go_ret
      exact ⟨rfl, keep_below hbC hBN⟩
end Go.Proofs.Ytpmdgmgcbminaaa

/- The walk of NcodeSafe. -/
import Derived.Test.YtpmdgmgcbminaaaMade
import Derived.Test.YtpmdgmgcbminaaaNcode4
import Derived.Test.YtpmdgmgcbminaaaSafe14
import Derived.Test.YtpmdgmgcbminaaaNBent
import Derived.Deep.RegionHeld3
namespace Go.Proofs.Ytpmdgmgcbminaaa
open Go.ChangeShapes Go.WideShapes Go.RowKit Words

theorem neq_self_bool (x : Bool) : (x != x) = false := by cases x <;> rfl

set_option linter.unusedSimpArgs false in
set_option maxRecDepth 100000 in
set_option maxHeartbeats 4000000 in
theorem walkNcodeSafe {H : Type} {enc : TypeId × Value → H} (W : World) (base : Nat) {v0 v1 v2 : Value} {d0 d1 d2 : DataW H} {p0 p1 p2 : List MemPlace}
    (o0 : Value.okWide Try.prog W .any base 27 v0) (h0 : DataW.Trod enc Try.prog W 0 (fun _ => true) true 27 v0 d0 p0)
    (o1 : Value.okWide Try.prog W .any base 29 v1) (h1 : DataW.Trod enc Try.prog W 0 (fun _ => true) true 29 v1 d1 p1)
    (o2 : Value.okWide Try.prog W .any base 29 v2) (h2 : DataW.Trod enc Try.prog W 0 (fun _ => true) true 29 v2 d2 p2) :
    Calls Try.prog 7 #[v0, v1, v2] W fun e w' => e = .returned (.bool true) ∧ Below W.heap.size W w' := by
  obtain ⟨g, A, n, c, l, rfl, -, h, -⟩ := open_code o0 h0
  obtain ⟨At, k, ct, tl, rfl, ht, -⟩ := open_i64s Try.underlying29 Try.underlying3 (by kernel_rfl) o1 h1
  obtain ⟨Ao, ko, co, ol, rfl, ho, -⟩ := open_i64s Try.underlying29 Try.underlying3 (by kernel_rfl) o2 h2
  clear h0 o0 h1 o1 h2 o2
  have hB0 : Below W.heap.size W (W.alloc (.cells #[.int .i64 g, .slice A n c] 27)) := code_alloc W _ g A n c
  have X0 := Blk.new W #[.int .i64 g, .slice A n c] 27
  have q0 := X0.cell 0 _ rfl
  have q1 := X0.cell 1 _ rfl
  by_cases hn : 300 < n
  · have hd : decide ((300 : Int) < (n : Int)) = true := by simp; omega
    go_enter Try.func7, Try.ntmps7
    go_wp2_with fail
    go_ret
    exact ⟨rfl, hB0⟩
  have hd : decide ((300 : Int) < (n : Int)) = false := by simp; omega
  have hn1 : n ≤ 1000000 := by omega
  have HN := Lib.hid hn1
  have hlen := h.length insCells_len (by omega)
  obtain rfl : n = l.length := hlen.symm
  clear hn hn1 hlen
  have htU := ht.belowU hB0
  have HTU := Lib.hid htU
  clear htU
  go_enter Try.func7, Try.ntmps7
  go_wp2_with fail
  clear hd
  refine (made_any At k ct tl _ HTU.out).mono ?_
  rintro e w2 ⟨g2, l2, A2, c2, rfl, hr2, hl2, -, -, hb2⟩
  have hB2 := keep_below hb2 hB0
  have X2 := X0.below hb2
  have hB3 := keep_alloc hB2 (.cells #[.int .i64 g2, .slice A2 l2.length c2] 27)
  have hr3 := hr2.belowU (keep_alloc (Below.refl _ _) (.cells #[.int .i64 g2, .slice A2 l2.length c2] 27))
  have Y3 := Blk.new w2 #[.int .i64 g2, .slice A2 l2.length c2] 27
  have X3 := X2.alloc (.cells #[.int .i64 g2, .slice A2 l2.length c2] 27)
  have ho3 := ho.belowU hB3
  have hl2' : l2.length ≤ 1000000 := by omega
  have HN2 := Lib.hid hl2'
  clear hb2 hB2 X2 hr2 X0 q0 q1 hl2 hl2' hB0
  go_upto_region 4 with fail
  obtain ⟨dx, hdx⟩ : ∃ dx, w2.heap.size = dx := ⟨_, rfl⟩
  obtain ⟨w3, hw3⟩ : ∃ w3, w2.alloc (.cells #[.int .i64 g2, .slice A2 l2.length c2] 27) = w3 := ⟨_, rfl⟩
  rw [hw3] at hB3 hr3 Y3 X3 ho3 ⊢
  rw [hdx] at Y3 ⊢
  clear hw3 hdx
  have x0 := X3.cell 0 _ rfl
  have x1 := X3.cell 1 _ rfl
  have y0 := Y3.cell 0 _ rfl
  have y1 := Y3.cell 1 _ rfl
  have L0 : ∀ u, Below w3.heap.size w3 u → u.cell? ⟨W.heap.size, 0, none⟩ = some (.int .i64 g) := fun u hu => keep_cell hu x0
  have L1 : ∀ u, Below w3.heap.size w3 u → u.cell? ⟨W.heap.size, 1, none⟩ = some (.slice A l.length c) := fun u hu => keep_cell hu x1
  have L2 : ∀ u, Below w3.heap.size w3 u → u.cell? ⟨dx, 0, none⟩ = some (.int .i64 g2) := fun u hu => keep_cell hu y0
  have L3 : ∀ u, Below w3.heap.size w3 u → u.cell? ⟨dx, 1, none⟩ = some (.slice A2 l2.length c2) := fun u hu => keep_cell hu y1
  clear x0 x1 y0 y1
  go_region_held3 (fun w' => Below w3.heap.size w3 w')
    (first | exact (Below.refl _ _).drew | exact keep_below hbE (by assumption) | exact keep_alloc (by assumption) _)
    ((go_at_call 21; refine (bent_any g2 A2 _ c2 l2 Ao ko co ol _ (hr3.belowU (by assumption)) (ho3.belowU (by assumption)) HN2.out).mono ?_; rintro e w4 ⟨g4, l4, A4, c4, rfl, hr4, hl4, hbE⟩; have HL4 := Lib.hid hl4; clear hl4))
  have hE : Below w3.heap.size w3 w4 := keep_below hbE (Below.refl _ _).drew
  have hb7 : Below w4.heap.size w4 (w4.alloc (.cells #[.int .i64 g, .slice A l.length c, .int .i64 g2, .slice A2 l2.length c2, .int .i64 g4, .slice A4 l4.length c4] 27)) := keep_alloc (Below.refl _ _) _
  have D7 := Blk.new w4 #[.int .i64 g, .slice A l.length c, .int .i64 g2, .slice A2 l2.length c2, .int .i64 g4, .slice A4 l4.length c4] 27
  have hy7 := hr4.belowU hb7
  have hx7 := (hr3.belowU hE).belowU hb7
  have hB7 := keep_below hb7 (keep_below hE hB3)
  have h7 := h.belowU hB7
  have hn4 : l4.length ≤ 1000000 := by have := HN2.out; have := HL4.out; omega
  have HN4 := Lib.hid hn4
  clear hn4 L0 L1 L2 L3 X3 Y3 hr3 ho3 hB3 hr4 hbE hE h
  go_wp2_with fail
  obtain ⟨d7, hd7⟩ : ∃ d7, w4.heap.size = d7 := ⟨_, rfl⟩
  obtain ⟨w7, hw7⟩ : ∃ w7, w4.alloc (.cells #[.int .i64 g, .slice A l.length c, .int .i64 g2, .slice A2 l2.length c2, .int .i64 g4, .slice A4 l4.length c4] 27) = w7 := ⟨_, rfl⟩
  rw [hw7] at D7 hx7 hy7 h7 hB7 ⊢
  rw [hd7] at D7 ⊢
  clear hw7 hd7 hb7
  go_loopw [23] (fun x wq => ∃ i : Nat, i ≤ 3 ∧ x = .int .i64 i ∧ Below w7.heap.size w7 wq) (fun x _ => 3 - (intOf x).toNat)
  case atStart => exact ⟨0, by omega, rfl, Below.refl _ _⟩
  case round =>
    obtain ⟨i, hi, rfl, hbi⟩ := hrel
    by_cases hi3 : i < 3
    · obtain ⟨gz, Az, cz, lz, z0, z1, hz, hzn⟩ : ∃ (gz : Int) (Az : Option Addr) (cz : Nat) (lz : List NI), wr.cell? ⟨d7, i * 2, none⟩ = some (.int .i64 gz) ∧ wr.cell? ⟨d7, i * 2 + 1, none⟩ = some (.slice Az lz.length cz) ∧ Reads wr wr.heap.size 5 Az lz.length cz (lz.flatMap insCells) ∧ lz.length ≤ 1000000 := by
        have Dr := D7.below hbi
        match i, hi3 with
        | 0, _ => exact ⟨_, _, _, l, Dr.cell 0 _ rfl, Dr.cell 1 _ rfl, h7.belowU hbi, HN.out⟩
        | 1, _ => exact ⟨_, _, _, l2, Dr.cell 2 _ rfl, Dr.cell 3 _ rfl, hx7.belowU hbi, HN2.out⟩
        | 2, _ => exact ⟨_, _, _, l4, Dr.cell 4 _ rfl, Dr.cell 5 _ rfl, hy7.belowU hbi, HN4.out⟩
      have hi0 : (0 : Int) ≤ (i : Int) := by omega
      have hi1 : (i : Int) < 3 := by omega
      have X8 := Blk.new wr #[.int .i64 gz, .slice Az lz.length cz] 27
      have hz8 := hz.belowU (code_alloc wr 27 gz Az lz.length cz)
      have hb8 := keep_alloc hbi (.cells #[.int .i64 gz, .slice Az lz.length cz] 27)
      have HB8 := Lib.hid hb8
      have HZN := Lib.hid hzn
      have hneq := neq_self_bool (safeC gz lz)
      clear hz hx7 hy7 h7 D7 hb8 hbi
      go_upto_region 7 with fail
      obtain ⟨d8, hd8⟩ : ∃ d8, wr.heap.size = d8 := ⟨_, rfl⟩
      obtain ⟨w8, hw8⟩ : ∃ w8, wr.alloc (.cells #[.int .i64 gz, .slice Az lz.length cz] 27) = w8 := ⟨_, rfl⟩
      rw [hw8] at X8 hz8 HB8 ⊢
      rw [hd8] at X8 ⊢
      clear hw8 hd8 z0 z1
      have L0 : ∀ u, Below w8.heap.size w8 u → u.cell? ⟨d8, 0, none⟩ = some (.int .i64 gz) := fun u hu => (X8.below hu).cell 0 _ rfl
      have L1 : ∀ u, Below w8.heap.size w8 u → u.cell? ⟨d8, 1, none⟩ = some (.slice Az lz.length cz) := fun u hu => (X8.below hu).cell 1 _ rfl
      go_region_held3 (fun w' => Below w8.heap.size w8 w')
        (first | exact (Below.refl _ _).drew | exact keep_below hbC (by assumption) | exact keep_below hbR (by assumption) | exact keep_below hbG (by assumption))
        (first
          | (go_at_call 14; refine (given_any gz Az _ cz lz _ (hz8.belowU (by assumption)) HZN.out).mono ?_; rintro e wG ⟨AG, cG, rfl, hrG, hbG⟩)
          | (go_at_call 24; refine (safe_any gz AG _ cG lz _ (by first | exact hrG | exact hrG.belowU hbR)).mono ?_; rintro e wC ⟨rfl, hbC⟩)
          | (go_at_call 25; refine (rsafe_any gz Az _ cz lz _ (hz8.belowU (by assumption))).mono ?_; rintro e wR ⟨rfl, hbR⟩))
      all_goals
        go_wp2_with fail
        go_roundw
        case rel => exact ⟨i + 1, by omega, by go_num, keep_below (by assumption) HB8.out⟩
        case measure => simp [intOf]; omega
    · have hi2 : i = 3 := by omega
      subst hi2
      have hBr := keep_below hbi hB7
      clear D7 hx7 hy7 h7
      go_wp2_with fail
      refine (awake_any _).mono ?_
      rintro e wA ⟨rfl, hbA⟩
      go_wp2_with fail
      go_ret
      exact ⟨rfl, keep_below hbA hBr⟩
end Go.Proofs.Ytpmdgmgcbminaaa

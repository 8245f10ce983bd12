/- The walk of NcodeWords. PRINTED BY A PROGRAM (mk_nwords.py). -/
import Derived.Test.YtpmdgmgcbminaaaMade
import Derived.Test.YtpmdgmgcbminaaaNcode4
import Derived.Test.YtpmdgmgcbminaaaNcode5
import Derived.Test.YtpmdgmgcbminaaaNcode7
import Derived.Test.YtpmdgmgcbminaaaWSame
import Derived.Deep.RegionHeld3
namespace Go.Proofs.Ytpmdgmgcbminaaa
open Go.ChangeShapes Go.WideShapes Go.RowKit Words

set_option linter.unusedSimpArgs false in
set_option maxRecDepth 100000 in
set_option maxHeartbeats 4000000 in
theorem walkNcodeWords {H : Type} {enc : TypeId × Value → H} (W : World) (base : Nat) {v0 v1 v2 : Value} {d0 d1 d2 : DataW H} {p0 p1 p2 : List MemPlace}
    (o0 : Value.okWide Try.prog W .any base 27 v0) (h0 : DataW.Trod enc Try.prog W 0 (fun _ => true) true 27 v0 d0 p0)
    (o1 : Value.okWide Try.prog W .any base 28 v1) (h1 : DataW.Trod enc Try.prog W 0 (fun _ => true) true 28 v1 d1 p1)
    (o2 : Value.okWide Try.prog W .any base 29 v2) (h2 : DataW.Trod enc Try.prog W 0 (fun _ => true) true 29 v2 d2 p2) :
    Calls Try.prog 4 #[v0, v1, v2] W fun e w' => e = .returned (.bool true) ∧ Below W.heap.size W w' := by
  obtain ⟨g, A, n, c, l, rfl, -, h, -⟩ := open_code o0 h0
  obtain ⟨Aw, m, cw, wl, rfl, hw⟩ := open_words Try.underlying28 Try.underlying56 (by kernel_rfl) o1 h1
  obtain ⟨At, k, ct, tl, rfl, ht, -⟩ := open_i64s Try.underlying29 Try.underlying3 (by kernel_rfl) o2 h2
  clear h0 o0 h1 o1 h2 o2
  have hB0 : Below W.heap.size W (W.alloc (.cells #[.int .i64 g, .slice A n c] 27)) := code_alloc W _ g A n c
  have X0 := Blk.new W #[.int .i64 g, .slice A n c] 27
  have q0 := X0.cell 0 _ rfl
  have q1 := X0.cell 1 _ rfl
  by_cases hn : 400 < n
  · have hd : decide ((400 : Int) < (n : Int)) = true := by simp; omega
    go_enter Try.func4, Try.ntmps4
    go_wp2_with fail
    go_ret
    exact ⟨rfl, hB0⟩
  by_cases hm : 900 < m
  · have hd : decide ((400 : Int) < (n : Int)) = false := by simp; omega
    have hd2 : decide ((900 : Int) < (m : Int)) = true := by simp; omega
    go_enter Try.func4, Try.ntmps4
    go_wp2_with fail
    go_ret
    exact ⟨rfl, hB0⟩
  have hd : decide ((400 : Int) < (n : Int)) = false := by simp; omega
  have hd2 : decide ((900 : Int) < (m : Int)) = false := by simp; omega
  have hn1 : n ≤ 1000000 := by omega
  have hm1 : m ≤ 1000000 := by omega
  have HN := Lib.hid hn1
  have HM := Lib.hid hm1
  have hlen := h.length insCells_len (by omega)
  obtain rfl : n = l.length := hlen.symm
  clear hn hm hn1 hm1 hlen
  have htU := ht.belowU hB0
  have HTU := Lib.hid htU
  clear htU
  go_enter Try.func4, Try.ntmps4
  go_wp2_with fail
  go_region_held3 (fun w' => w'.cell? ⟨W.heap.size, 0, none⟩ = some (.int .i64 g) ∧ w'.cell? ⟨W.heap.size, 1, none⟩ = some (.slice A l.length c))
    (first | (go_split_ands; refine ⟨?_, ?_⟩ <;> (refine keep_cell hb2 ?_; assumption)) | go_keep)
    ((go_at_call 12; refine (made_any At k ct tl _ HTU.out.drew).mono ?_; rintro e w2 ⟨g2, l2, A2, c2, rfl, hr2, hl2, hg2, hfit2, hb2⟩))
  have hB2 : Below W.heap.size W w2 := keep_below hb2 hB0.drew
  have D := Blk.new w2 #[.int .i64 g, .slice A l.length c, .int .i64 g2, .slice A2 l2.length c2] 27
  have hB3 := keep_alloc hB2 (.cells #[.int .i64 g, .slice A l.length c, .int .i64 g2, .slice A2 l2.length c2] 27)
  have hr3 := hr2.belowU (keep_alloc (Below.refl _ _) (.cells #[.int .i64 g, .slice A l.length c, .int .i64 g2, .slice A2 l2.length c2] 27))
  have hl2' : l2.length ≤ 1000000 := by omega
  have HN2 := Lib.hid hl2'
  clear hl2' hl2 hr2 q0 q1 X0
  go_wp2_with fail
  obtain ⟨d, hd3⟩ : ∃ d, w2.heap.size = d := ⟨_, rfl⟩
  obtain ⟨w3, hw3⟩ : ∃ w3, w2.alloc (.cells #[.int .i64 g, .slice A l.length c, .int .i64 g2, .slice A2 l2.length c2] 27) = w3 := ⟨_, rfl⟩
  rw [hw3] at D hB3 hr3 ⊢
  rw [hd3] at D ⊢
  have hd4 : W.heap.size ≤ d := by have := hB2.size; omega
  clear hw3 hd3
  have h3 := h.belowU hB3
  have hw4 := hw.belowU hB3
  go_loopw [31] (fun x wq => ∃ q : Nat, q ≤ 2 ∧ x = .int .i64 q ∧ Below w3.heap.size w3 wq) (fun x _ => 2 - (intOf x).toNat)
  case atStart => exact ⟨0, by omega, rfl, Below.refl _ _⟩
  case round =>
    obtain ⟨q, hq, rfl, hb⟩ := hrel
    have Dr := D.below hb
    have hA := h3.belowU hb
    have hA2 := hr3.belowU hb
    have hwr := hw4.belowU hb
    have hBr := keep_below hb hB3
    have e0 := Dr.cell 0 _ rfl
    have e1 := Dr.cell 1 _ rfl
    have e2 := Dr.cell 2 _ rfl
    have e3 := Dr.cell 3 _ rfl
    match q, hq with
    | 0, _ =>
      have hx2 : ((encC g l).2 != (encC g l).2) = false := by simp
      have hBx := keep_alloc hBr (.cells #[.int .i64 g, .slice A l.length c] 27)
      have hbx := keep_alloc hb (.cells #[.int .i64 g, .slice A l.length c] 27)
      have hx := hA.belowU (code_alloc wr 27 g A l.length c)
      have X := Blk.new wr #[.int .i64 g, .slice A l.length c] 27
      go_wp2_with fail
      refine (given_any g A l.length c l _ hx HN.out).mono ?_
      rintro e w5 ⟨A5, c5, rfl, hr5, hb5⟩
      go_wp2_with fail
      refine (encode_any g A5 l.length c5 l _ hr5).mono ?_
      rintro e w6 ⟨A6, c6, rfl, hr6, hb6⟩
      have X6 := (X.below hb5).below hb6
      have x0 : w6.cell? ⟨wr.heap.size, 0, none⟩ = some (.int .i64 g) := X6.cell 0 _ rfl
      have x1 : w6.cell? ⟨wr.heap.size, 1, none⟩ = some (.slice A l.length c) := X6.cell 1 _ rfl
      have hx6 := (hx.belowU hb5).belowU hb6
      go_wp2_with fail
      refine (rencode_any g A l.length c l _ hx6).mono ?_
      rintro e w7 ⟨A7, c7, rfl, hr7, hb7⟩
      have hr67 := hr6.belowU hb7
      go_wp2_with fail
      refine (samew_any _ _ _ _ _ _ _ _ _ hr67 hr7).mono ?_
      rintro e w8 ⟨rfl, mq, rfl⟩
      rw [decide_eq_true rfl]
      go_wp2_with fail
      go_roundw
      case rel => exact ⟨0 + 1, by omega, by go_num, below_drewN (keep_below hb7 (keep_below hb6 (keep_below hb5 hbx))) _⟩
      case measure => simp [intOf]
    | 1, _ =>
      have hx2 : ((encC g2 l2).2 != (encC g2 l2).2) = false := by simp
      have hBx := keep_alloc hBr (.cells #[.int .i64 g2, .slice A2 l2.length c2] 27)
      have hbx := keep_alloc hb (.cells #[.int .i64 g2, .slice A2 l2.length c2] 27)
      have hx := hA2.belowU (code_alloc wr 27 g2 A2 l2.length c2)
      have X := Blk.new wr #[.int .i64 g2, .slice A2 l2.length c2] 27
      go_wp2_with fail
      refine (given_any g2 A2 l2.length c2 l2 _ hx HN2.out).mono ?_
      rintro e w5 ⟨A5, c5, rfl, hr5, hb5⟩
      go_wp2_with fail
      refine (encode_any g2 A5 l2.length c5 l2 _ hr5).mono ?_
      rintro e w6 ⟨A6, c6, rfl, hr6, hb6⟩
      have X6 := (X.below hb5).below hb6
      have x0 : w6.cell? ⟨wr.heap.size, 0, none⟩ = some (.int .i64 g2) := X6.cell 0 _ rfl
      have x1 : w6.cell? ⟨wr.heap.size, 1, none⟩ = some (.slice A2 l2.length c2) := X6.cell 1 _ rfl
      have hx6 := (hx.belowU hb5).belowU hb6
      go_wp2_with fail
      refine (rencode_any g2 A2 l2.length c2 l2 _ hx6).mono ?_
      rintro e w7 ⟨A7, c7, rfl, hr7, hb7⟩
      have hr67 := hr6.belowU hb7
      go_wp2_with fail
      refine (samew_any _ _ _ _ _ _ _ _ _ hr67 hr7).mono ?_
      rintro e w8 ⟨rfl, mq, rfl⟩
      rw [decide_eq_true rfl]
      go_wp2_with fail
      go_roundw
      case rel => exact ⟨1 + 1, by omega, by go_num, below_drewN (keep_below hb7 (keep_below hb6 (keep_below hb5 hbx))) _⟩
      case measure => simp [intOf]
    | 2, _ =>
      have hx2 : ((decC wl).2.2 == (decC wl).2.2) = true := by simp
      go_wp2_with fail
      refine (decode_any Aw m cw wl _ hwr HM.out).mono ?_
      rintro e w5 ⟨A5, c5, rfl, hr5, hb5⟩
      have hBx := keep_alloc (keep_below hb5 hBr) (.cells #[.int .i64 (decC wl).1, .slice A5 (decC wl).2.1.length c5] 37)
      have X := Blk.new w5 #[.int .i64 (decC wl).1, .slice A5 (decC wl).2.1.length c5] 37
      have hx5 := hr5.belowU (code_alloc w5 37 (decC wl).1 A5 (decC wl).2.1.length c5)
      have hw5 := (hwr.belowU hb5).belowU (code_alloc w5 37 (decC wl).1 A5 (decC wl).2.1.length c5)
      go_wp2_with fail
      refine (rdecode_any Aw m cw wl _ hw5 HM.out).mono ?_
      rintro e w6 ⟨A6, c6, rfl, hr6, hb6⟩
      have Y := Blk.new w6 #[.int .i64 (decC wl).1, .slice A6 (decC wl).2.1.length c6] 27
      have X6 := (X.below hb6).alloc (.cells #[.int .i64 (decC wl).1, .slice A6 (decC wl).2.1.length c6] 27)
      have hx6 := (hx5.belowU hb6).belowU (code_alloc w6 27 (decC wl).1 A6 (decC wl).2.1.length c6)
      have hy6 := hr6.belowU (code_alloc w6 27 (decC wl).1 A6 (decC wl).2.1.length c6)
      have hB6 := keep_alloc (keep_below hb6 hBx) (.cells #[.int .i64 (decC wl).1, .slice A6 (decC wl).2.1.length c6] 27)
      have x0 := X6.cell 0 _ rfl
      have x1 := X6.cell 1 _ rfl
      have y0 := Y.cell 0 _ rfl
      have y1 := Y.cell 1 _ rfl
      have hdl : (decC wl).2.1.length ≤ 1000000 := by have := decC_len wl; omega
      have HDL := Lib.hid hdl
      clear hdl X6 Y X
      go_wp2_with fail
      obtain ⟨bx, hbx⟩ : ∃ bx, w5.heap.size = bx := ⟨_, rfl⟩
      obtain ⟨by_, hby⟩ : ∃ by_, w6.heap.size = by_ := ⟨_, rfl⟩
      obtain ⟨w7, hw7⟩ : ∃ w7, w6.alloc (.cells #[.int .i64 (decC wl).1, .slice A6 (decC wl).2.1.length c6] 27) = w7 := ⟨_, rfl⟩
      rw [hw7] at hB6 hx6 hy6 x0 x1 y0 y1 ⊢
      rw [hbx] at x0 x1 ⊢
      rw [hby] at y0 y1 ⊢
      clear hw7 hbx hby
      go_region_held3 (fun w' => w'.cell? ⟨bx, 0, none⟩ = some (.int .i64 (decC wl).1) ∧ w'.cell? ⟨bx, 1, none⟩ = some (.slice A5 (decC wl).2.1.length c5) ∧ w'.cell? ⟨by_, 0, none⟩ = some (.int .i64 (decC wl).1) ∧ w'.cell? ⟨by_, 1, none⟩ = some (.slice A6 (decC wl).2.1.length c6))
        (first | (go_split_ands; refine ⟨?_, ?_, ?_, ?_⟩ <;> (refine keep_cell hbS ?_; assumption)) | (go_split_ands; refine ⟨?_, ?_, ?_, ?_⟩ <;> (refine keep_cell hbT ?_; assumption)) | (go_split_ands; refine ⟨?_, ?_, ?_, ?_⟩ <;> (refine keep_cell hbA ?_; assumption)) | go_keep)
        (first
          | (go_at_call 9; refine (awake_any _).mono ?_; rintro e wA ⟨rfl, hbA⟩; have hxA := hx6.drew.belowU hbA; have hyA := hy6.drew.belowU hbA)
          | (go_at_call 20; refine (told_any _ _ _ _ _ _ hxA HDL.out).mono ?_; rintro e wT ⟨AT, cT, rfl, hrT, hbT⟩; have hyT := hyA.belowU hbT)
          | (go_at_call 19; refine (nsame_any _ _ _ _ _ _ _ _ _ _ _ hrT hyT).mono ?_; rintro e wS ⟨rfl, hbS⟩; rw [decide_eq_true ⟨rfl, rfl⟩]))
      all_goals
        go_wp2_with fail
        go_ret
        exact ⟨rfl, keep_below hbS (keep_below hbT (keep_below hbA hB6.drew))⟩
end Go.Proofs.Ytpmdgmgcbminaaa

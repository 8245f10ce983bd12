/- The walk of NcodeBack. PRINTED BY A PROGRAM (mk_nwords.py). -/
import Derived.Test.YtpmdgmgcbminaaaMade
import Derived.Test.YtpmdgmgcbminaaaNcode4
import Derived.Test.YtpmdgmgcbminaaaNcode5
import Derived.Test.YtpmdgmgcbminaaaNBack
import Derived.Test.YtpmdgmgcbminaaaWSame
import Derived.Deep.RegionHeld3
namespace Go.Proofs.Ytpmdgmgcbminaaa
open Go.ChangeShapes Go.WideShapes Go.RowKit Words

set_option linter.unusedSimpArgs false in
set_option maxRecDepth 100000 in
set_option maxHeartbeats 4000000 in
theorem walkNcodeBack {H : Type} {enc : TypeId × Value → H} (W : World) (base : Nat) {v0 v1 v2 : Value} {d0 d1 d2 : DataW H} {p0 p1 p2 : List MemPlace}
    (o0 : Value.okWide Try.prog W .any base 27 v0) (h0 : DataW.Trod enc Try.prog W 0 (fun _ => true) true 27 v0 d0 p0)
    (o1 : Value.okWide Try.prog W .any base 28 v1) (h1 : DataW.Trod enc Try.prog W 0 (fun _ => true) true 28 v1 d1 p1)
    (o2 : Value.okWide Try.prog W .any base 29 v2) (h2 : DataW.Trod enc Try.prog W 0 (fun _ => true) true 29 v2 d2 p2) :
    Calls Try.prog 5 #[v0, v1, v2] W fun e w' => e = .returned (.bool true) ∧ Below W.heap.size W w' := by
  obtain ⟨g, A, n, c, l, rfl, -, h, -⟩ := open_code o0 h0
  obtain ⟨Aw, m, cw, wl, rfl, hw⟩ := open_words Try.underlying28 Try.underlying56 (by kernel_rfl) o1 h1
  obtain ⟨At, k, ct, tl, rfl, ht, -⟩ := open_i64s Try.underlying29 Try.underlying3 (by kernel_rfl) o2 h2
  clear h0 o0 h1 o1 h2 o2
  have hB0 : Below W.heap.size W (W.alloc (.cells #[.int .i64 g, .slice A n c] 27)) := code_alloc W _ g A n c
  have X0 := Blk.new W #[.int .i64 g, .slice A n c] 27
  have q0 := X0.cell 0 _ rfl
  have q1 := X0.cell 1 _ rfl
  by_cases hn : 400 < n
  · have hd : decide ((400 : Int) < (n : Int)) = true := by simp; omega
    go_enter Try.func5, Try.ntmps5
    go_wp2_with fail
    go_ret
    exact ⟨rfl, hB0⟩
  by_cases hm : 900 < m
  · have hd : decide ((400 : Int) < (n : Int)) = false := by simp; omega
    have hd2 : decide ((900 : Int) < (m : Int)) = true := by simp; omega
    go_enter Try.func5, Try.ntmps5
    go_wp2_with fail
    go_ret
    exact ⟨rfl, hB0⟩
  have hd : decide ((400 : Int) < (n : Int)) = false := by simp; omega
  have hd2 : decide ((900 : Int) < (m : Int)) = false := by simp; omega
  have hn1 : n ≤ 1000000 := by omega
  have hm1 : m ≤ 1000000 := by omega
  have HN := Lib.hid hn1
  have HM := Lib.hid hm1
  have hlen := h.length insCells_len (by omega)
  obtain rfl : n = l.length := hlen.symm
  clear hn hm hn1 hm1 hlen
  have htU := ht.belowU hB0
  have HTU := Lib.hid htU
  clear htU
  go_enter Try.func5, Try.ntmps5
  go_wp2_with fail
  go_region_held3 (fun w' => w'.cell? ⟨W.heap.size, 0, none⟩ = some (.int .i64 g) ∧ w'.cell? ⟨W.heap.size, 1, none⟩ = some (.slice A l.length c))
    (first | (go_split_ands; refine ⟨?_, ?_⟩ <;> (refine keep_cell hb2 ?_; assumption)) | go_keep)
    ((go_at_call 12; refine (made_any At k ct tl _ HTU.out.drew).mono ?_; rintro e w2 ⟨g2, l2, A2, c2, rfl, hr2, hl2, hg2, hfit2, hb2⟩))
  have hB2 : Below W.heap.size W w2 := keep_below hb2 hB0.drew
  have D := Blk.new w2 #[.int .i64 g, .slice A l.length c, .int .i64 g2, .slice A2 l2.length c2] 27
  have hB3 := keep_alloc hB2 (.cells #[.int .i64 g, .slice A l.length c, .int .i64 g2, .slice A2 l2.length c2] 27)
  have hr3 := hr2.belowU (keep_alloc (Below.refl _ _) (.cells #[.int .i64 g, .slice A l.length c, .int .i64 g2, .slice A2 l2.length c2] 27))
  have hl2' : l2.length ≤ 1000000 := by omega
  have HN2 := Lib.hid hl2'
  clear hl2' hl2 hr2 q0 q1 X0
  go_wp2_with fail
  obtain ⟨d, hd3⟩ : ∃ d, w2.heap.size = d := ⟨_, rfl⟩
  obtain ⟨w3, hw3⟩ : ∃ w3, w2.alloc (.cells #[.int .i64 g, .slice A l.length c, .int .i64 g2, .slice A2 l2.length c2] 27) = w3 := ⟨_, rfl⟩
  rw [hw3] at D hB3 hr3 ⊢
  rw [hd3] at D ⊢
  have hd4 : W.heap.size ≤ d := by have := hB2.size; omega
  clear hw3 hd3
  have h3 := h.belowU hB3
  have hw4 := hw.belowU hB3
  go_loopw [31] (fun x wq => ∃ q : Nat, q ≤ 2 ∧ x = .int .i64 q ∧ Below w3.heap.size w3 wq) (fun x _ => 2 - (intOf x).toNat)
  case atStart => exact ⟨0, by omega, rfl, Below.refl _ _⟩
  case round =>
    obtain ⟨q, hq, rfl, hb⟩ := hrel
    have Dr := D.below hb
    have hA := h3.belowU hb
    have hA2 := hr3.belowU hb
    have hwr := hw4.belowU hb
    have hBr := keep_below hb hB3
    have e0 := Dr.cell 0 _ rfl
    have e1 := Dr.cell 1 _ rfl
    have e2 := Dr.cell 2 _ rfl
    have e3 := Dr.cell 3 _ rfl
    match q, hq with
    | 0, _ =>
      have hBx := keep_alloc hBr (.cells #[.int .i64 g, .slice A l.length c] 27)
      have hbx := keep_alloc hb (.cells #[.int .i64 g, .slice A l.length c] 27)
      have hx := hA.belowU (code_alloc wr 27 g A l.length c)
      have X := Blk.new wr #[.int .i64 g, .slice A l.length c] 27
      cases hf : formedC g l
      · have hE := Lib.hid (show encC g l = ([], 1) by unfold encC; rw [hf]; rfl)
        clear hf
        go_wp2_with fail
        refine (given_any g A l.length c l _ hx HN.out).mono ?_
        rintro e w5 ⟨A5, c5, rfl, hr5, hb5⟩
        go_wp2_with fail
        refine (encode_any g A5 l.length c5 l _ hr5).mono ?_
        rw [hE.out]
        rintro e w6 ⟨A6, c6, rfl, hr6, hb6⟩
        simp only [List.length_nil]
        go_wp2_with fail
        go_roundw
        case rel => exact ⟨0 + 1, by omega, by go_num, keep_below hb6 (keep_below hb5 hbx)⟩
        case measure => simp [intOf]
      · have hE := Lib.hid (show encC g l = (encL g l, 0) by unfold encC; rw [hf]; rfl)
        have hD := Lib.hid (decC_encL hf)
        have hle : (encL g l).length ≤ 1000000 := by rw [encL_len]; have := (formedC_parts hf).2.1; omega
        have HLE := Lib.hid hle
        clear hf hle
        go_wp2_with fail
        refine (given_any g A l.length c l _ hx HN.out).mono ?_
        rintro e w5 ⟨A5, c5, rfl, hr5, hb5⟩
        go_wp2_with fail
        refine (encode_any g A5 l.length c5 l _ hr5).mono ?_
        rw [hE.out]
        rintro e w6 ⟨A6, c6, rfl, hr6, hb6⟩
        dsimp only at hr6 ⊢
        go_wp2_with fail
        refine (decode_any A6 (encL g l).length c6 (encL g l) _ hr6 HLE.out).mono ?_
        rw [hD.out]
        rintro e w7 ⟨A7, c7, rfl, hr7, hb7⟩
        dsimp only at hr7 ⊢
        have X7 := (((X.below hb5).below hb6).below hb7).alloc (.cells #[.int .i64 g, .slice A7 l.length c7] 37)
        have Y7 := Blk.new w7 #[.int .i64 g, .slice A7 l.length c7] 37
        have hx7 := (((hx.belowU hb5).belowU hb6).belowU hb7).belowU (code_alloc w7 37 g A7 l.length c7)
        have hy7 := hr7.belowU (code_alloc w7 37 g A7 l.length c7)
        have hb8 := keep_alloc (keep_below hb7 (keep_below hb6 (keep_below hb5 hbx))) (.cells #[.int .i64 g, .slice A7 l.length c7] 37)
        have x0 := X7.cell 0 _ rfl
        have x1 := X7.cell 1 _ rfl
        have y0 := Y7.cell 0 _ rfl
        have y1 := Y7.cell 1 _ rfl
        clear X7 Y7 X hr7 hr6
        go_wp2_with fail
        obtain ⟨bx, hbx'⟩ : ∃ bx, wr.heap.size = bx := ⟨_, rfl⟩
        obtain ⟨by_, hby⟩ : ∃ by_, w7.heap.size = by_ := ⟨_, rfl⟩
        obtain ⟨w8, hw8⟩ : ∃ w8, w7.alloc (.cells #[.int .i64 g, .slice A7 l.length c7] 37) = w8 := ⟨_, rfl⟩
        rw [hw8] at hb8 hx7 hy7 x0 x1 y0 y1 ⊢
        rw [hbx'] at x0 x1 ⊢
        rw [hby] at y0 y1 ⊢
        clear hw8 hbx' hby
        go_region_held3 (fun w' => w'.cell? ⟨bx, 0, none⟩ = some (.int .i64 g) ∧ w'.cell? ⟨bx, 1, none⟩ = some (.slice A l.length c) ∧ w'.cell? ⟨by_, 0, none⟩ = some (.int .i64 g) ∧ w'.cell? ⟨by_, 1, none⟩ = some (.slice A7 l.length c7))
          (first | (go_split_ands; refine ⟨?_, ?_, ?_, ?_⟩ <;> (refine keep_cell hbS ?_; assumption)) | (go_split_ands; refine ⟨?_, ?_, ?_, ?_⟩ <;> (refine keep_cell hbT ?_; assumption)) | go_keep)
          (first
            | (go_at_call 20; refine (told_any _ _ _ _ _ _ hy7.drew HN.out).mono ?_; rintro e wT ⟨AT, cT, rfl, hrT, hbT⟩; have hxT := hx7.drew.belowU hbT)
            | (go_at_call 19; refine (nsame_any _ _ _ _ _ _ _ _ _ _ _ hrT hxT).mono ?_; rintro e wS ⟨rfl, hbS⟩; rw [decide_eq_true ⟨rfl, rfl⟩]))
        all_goals
          go_wp2_with fail
          go_roundw
          case rel => exact ⟨0 + 1, by omega, by go_num, keep_below hbS (keep_below hbT hb8.drew)⟩
          case measure => simp [intOf]
    | 1, _ =>
      have hBx := keep_alloc hBr (.cells #[.int .i64 g2, .slice A2 l2.length c2] 27)
      have hbx := keep_alloc hb (.cells #[.int .i64 g2, .slice A2 l2.length c2] 27)
      have hx := hA2.belowU (code_alloc wr 27 g2 A2 l2.length c2)
      have X := Blk.new wr #[.int .i64 g2, .slice A2 l2.length c2] 27
      cases hf : formedC g2 l2
      · have hE := Lib.hid (show encC g2 l2 = ([], 1) by unfold encC; rw [hf]; rfl)
        clear hf
        go_wp2_with fail
        refine (given_any g2 A2 l2.length c2 l2 _ hx HN2.out).mono ?_
        rintro e w5 ⟨A5, c5, rfl, hr5, hb5⟩
        go_wp2_with fail
        refine (encode_any g2 A5 l2.length c5 l2 _ hr5).mono ?_
        rw [hE.out]
        rintro e w6 ⟨A6, c6, rfl, hr6, hb6⟩
        simp only [List.length_nil]
        go_wp2_with fail
        go_roundw
        case rel => exact ⟨1 + 1, by omega, by go_num, keep_below hb6 (keep_below hb5 hbx)⟩
        case measure => simp [intOf]
      · have hE := Lib.hid (show encC g2 l2 = (encL g2 l2, 0) by unfold encC; rw [hf]; rfl)
        have hD := Lib.hid (decC_encL hf)
        have hle : (encL g2 l2).length ≤ 1000000 := by rw [encL_len]; have := (formedC_parts hf).2.1; omega
        have HLE := Lib.hid hle
        clear hf hle
        go_wp2_with fail
        refine (given_any g2 A2 l2.length c2 l2 _ hx HN2.out).mono ?_
        rintro e w5 ⟨A5, c5, rfl, hr5, hb5⟩
        go_wp2_with fail
        refine (encode_any g2 A5 l2.length c5 l2 _ hr5).mono ?_
        rw [hE.out]
        rintro e w6 ⟨A6, c6, rfl, hr6, hb6⟩
        dsimp only at hr6 ⊢
        go_wp2_with fail
        refine (decode_any A6 (encL g2 l2).length c6 (encL g2 l2) _ hr6 HLE.out).mono ?_
        rw [hD.out]
        rintro e w7 ⟨A7, c7, rfl, hr7, hb7⟩
        dsimp only at hr7 ⊢
        have X7 := (((X.below hb5).below hb6).below hb7).alloc (.cells #[.int .i64 g2, .slice A7 l2.length c7] 37)
        have Y7 := Blk.new w7 #[.int .i64 g2, .slice A7 l2.length c7] 37
        have hx7 := (((hx.belowU hb5).belowU hb6).belowU hb7).belowU (code_alloc w7 37 g2 A7 l2.length c7)
        have hy7 := hr7.belowU (code_alloc w7 37 g2 A7 l2.length c7)
        have hb8 := keep_alloc (keep_below hb7 (keep_below hb6 (keep_below hb5 hbx))) (.cells #[.int .i64 g2, .slice A7 l2.length c7] 37)
        have x0 := X7.cell 0 _ rfl
        have x1 := X7.cell 1 _ rfl
        have y0 := Y7.cell 0 _ rfl
        have y1 := Y7.cell 1 _ rfl
        clear X7 Y7 X hr7 hr6
        go_wp2_with fail
        obtain ⟨bx, hbx'⟩ : ∃ bx, wr.heap.size = bx := ⟨_, rfl⟩
        obtain ⟨by_, hby⟩ : ∃ by_, w7.heap.size = by_ := ⟨_, rfl⟩
        obtain ⟨w8, hw8⟩ : ∃ w8, w7.alloc (.cells #[.int .i64 g2, .slice A7 l2.length c7] 37) = w8 := ⟨_, rfl⟩
        rw [hw8] at hb8 hx7 hy7 x0 x1 y0 y1 ⊢
        rw [hbx'] at x0 x1 ⊢
        rw [hby] at y0 y1 ⊢
        clear hw8 hbx' hby
        go_region_held3 (fun w' => w'.cell? ⟨bx, 0, none⟩ = some (.int .i64 g2) ∧ w'.cell? ⟨bx, 1, none⟩ = some (.slice A2 l2.length c2) ∧ w'.cell? ⟨by_, 0, none⟩ = some (.int .i64 g2) ∧ w'.cell? ⟨by_, 1, none⟩ = some (.slice A7 l2.length c7))
          (first | (go_split_ands; refine ⟨?_, ?_, ?_, ?_⟩ <;> (refine keep_cell hbS ?_; assumption)) | (go_split_ands; refine ⟨?_, ?_, ?_, ?_⟩ <;> (refine keep_cell hbT ?_; assumption)) | go_keep)
          (first
            | (go_at_call 20; refine (told_any _ _ _ _ _ _ hy7.drew HN2.out).mono ?_; rintro e wT ⟨AT, cT, rfl, hrT, hbT⟩; have hxT := hx7.drew.belowU hbT)
            | (go_at_call 19; refine (nsame_any _ _ _ _ _ _ _ _ _ _ _ hrT hxT).mono ?_; rintro e wS ⟨rfl, hbS⟩; rw [decide_eq_true ⟨rfl, rfl⟩]))
        all_goals
          go_wp2_with fail
          go_roundw
          case rel => exact ⟨1 + 1, by omega, by go_num, keep_below hbS (keep_below hbT hb8.drew)⟩
          case measure => simp [intOf]
    | 2, _ =>
      rcases enc_decC wl with ⟨g', is, hdc, hec⟩ | hdc
      · have HDC := Lib.hid hdc
        have HEC := Lib.hid hec
        clear hdc hec
        go_wp2_with fail
        refine (decode_any Aw m cw wl _ hwr HM.out).mono ?_
        rw [HDC.out]
        rintro e w5 ⟨A5, c5, rfl, hr5, hb5⟩
        dsimp only at hr5 ⊢
        have hBx := keep_alloc (keep_below hb5 hBr) (.cells #[.int .i64 g', .slice A5 is.length c5] 37)
        have hx5 := hr5.belowU (code_alloc w5 37 g' A5 is.length c5)
        have hw5 := (hwr.belowU hb5).belowU (code_alloc w5 37 g' A5 is.length c5)
        go_wp2_with fail
        refine (encode_any g' A5 is.length c5 is _ hx5).mono ?_
        rw [HEC.out]
        rintro e w6 ⟨A6, c6, rfl, hr6, hb6⟩
        dsimp only at hr6 ⊢
        have hw6 := hw5.belowU hb6
        have hml := hw6.length (fun _ => rfl) (by omega)
        have HML := Lib.hid hml
        clear hml
        go_wp2_with fail
        refine (awake_any _).mono ?_
        rintro e w7 ⟨rfl, hb7⟩
        have hr7 := hr6.belowU hb7
        have hw7 := hw6.belowU hb7
        go_wp2_with fail
        refine (samew_any _ _ _ _ _ _ _ _ _ hr7 hw7).mono ?_
        rintro e w8 ⟨rfl, mq, rfl⟩
        rw [decide_eq_true rfl]
        go_wp2_with fail
        go_ret
        exact ⟨rfl, below_drewN (keep_below hb7 (keep_below hb6 hBx)) _⟩
      · have HDC := Lib.hid hdc
        clear hdc
        go_wp2_with fail
        refine (decode_any Aw m cw wl _ hwr HM.out).mono ?_
        rw [HDC.out]
        rintro e w5 ⟨A5, c5, rfl, hr5, hb5⟩
        simp only [List.length_nil]
        have X := Blk.new w5 #[.int .i64 0, .slice A5 0 c5] 37
        have hBx := keep_alloc (keep_below hb5 hBr) (.cells #[.int .i64 0, .slice A5 0 c5] 37)
        go_wp2_with fail
        refine (awake_any _).mono ?_
        rintro e w7 ⟨rfl, hb7⟩
        have X7 := X.below hb7
        have x1 : w7.cell? ⟨w5.heap.size, 1, none⟩ = some (.slice A5 0 c5) := X7.cell 1 _ rfl
        go_wp2_with fail
        go_ret
        exact ⟨rfl, keep_below hb7 hBx⟩
end Go.Proofs.Ytpmdgmgcbminaaa

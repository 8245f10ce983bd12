/- The walk of ScopeCapacity. -/
import Derived.Test.YtmcdhpbkhchpeaaScopeCap
import Derived.Test.YtmcdhpbkhchpeaaScopeBox
import Derived.Test.YtmcdhpbkhchpeaaScopeAwake
namespace Go.Proofs.Ytmcdhpbkhchpeaa
open Go.ChangeShapes Go.WideShapes Go.RowKit Words

set_option maxRecDepth 100000 in
set_option maxHeartbeats 4000000 in
theorem walkScopeCapacity {H : Type} {enc : TypeId × Value → H} (W : World) (base : Nat) {v0 : Value} {d0 : DataW H} {p0 : List MemPlace}
    (o0 : Value.okWide Try.prog W .any base 3 v0) (h0 : DataW.Trod enc Try.prog W 0 (fun _ => true) true 3 v0 d0 p0) :
    Calls Try.prog 3 #[v0] W fun e w' => e = .returned (.bool true) ∧ Below W.heap.size W w' := by
  obtain ⟨z, rfl, hz0, hz1⟩ := open_i64 Try.underlying3 o0 h0
  clear h0 o0
  obtain ⟨hq0, hq1⟩ := tmod_range z 65 (by omega)
  obtain ⟨q, hq⟩ : ∃ q, z.tmod 65 = q := ⟨_, rfl⟩
  rw [hq] at hq0 hq1
  obtain ⟨n, hk, hn⟩ : ∃ n : Nat, (q + 65).tmod 65 = n ∧ n < 65 := ⟨((q + 65).tmod 65).toNat, by rw [Int.tmod_eq_emod_of_nonneg (by omega)]; omega, by rw [Int.tmod_eq_emod_of_nonneg (by omega)]; omega⟩
  obtain ⟨hfull, hdel, hopen⟩ := cap_at hn
  have HF := Lib.hid hfull
  have HD := Lib.hid hdel
  have HO := Lib.hid hopen
  have hw1 : IntKind.i64.wrap q = q := IntWalk.i64_in _ (by omega)
  have hw2 : IntKind.i64.wrap (q + 65) = q + 65 := IntWalk.i64_in _ (by omega)
  clear hfull hdel hopen
  go_enter Try.func3, Try.ntmps3
  go_wp2_with fail
  refine (enter_any none 0 0 none 0 0 none 0 0 [] [] [] n _ (LRd.nil _) (by omega) (by omega) (by omega)).mono ?_
  rw [show openL ⟨[], [], []⟩ n true = _ from HO.out]
  rintro e w1 ⟨A1, c1, A2, c2, A3, c3, rfl, hown, hb1⟩
  have hV := Loc.mkNew (x := capL n 0) hown.rd
  have hB := keep_alloc hb1 (.cells #[.slice A1 (capL n 0).s.length c1, .slice A2 (capL n 0).p.length c2, .slice A3 (capL n 0).i.length c3] 26)
  obtain ⟨w2, hw2'⟩ : ∃ w2, w1.alloc (.cells #[.slice A1 (capL n 0).s.length c1, .slice A2 (capL n 0).p.length c2, .slice A3 (capL n 0).i.length c3] 26) = w2 := ⟨_, rfl⟩
  have hg2 : w1.heap.size < w2.heap.size := by rw [← hw2']; simp
  obtain ⟨g, hg⟩ : ∃ g, w1.heap.size = g := ⟨_, rfl⟩
  have hgW : W.heap.size ≤ g := by rw [← hg]; exact hb1.size
  rw [hw2'] at hV hB
  rw [hg] at hV hg2
  clear hown hb1
  go_wp2_with fail
  go_loopw [6] (fun x wq => ∃ (j : Nat) (A1 : Option Addr) (c1 : Nat) (A2 : Option Addr) (c2 : Nat) (A3 : Option Addr) (c3 : Nat), j ≤ n ∧ x = .int .i64 j ∧ Loc wq g (capL n j) A1 c1 A2 c2 A3 c3 ∧ Below W.heap.size W wq ∧ g < wq.heap.size) (fun x _ => n - (intOf x).toNat)
  case atStart => exact ⟨0, A1, c1, A2, c2, A3, c3, by omega, rfl, hV, hB, hg2⟩
  case round =>
    clear hV hB hw2' hg hg2
    obtain ⟨j, A1, c1, A2, c2, A3, c3, hj, rfl, hV, hB, hg2⟩ := hrel
    have qT0 := hV.box.cell 0 _ rfl
    have qT1 := hV.box.cell 1 _ rfl
    have qT2 := hV.box.cell 2 _ rfl
    have HL := Lib.hid (cap_len n j)
    by_cases hlt : j < n
    · have hnew := cap_new hn hlt
      have HNW := Lib.hid hnew
      have hd : decide ((j : Int) < n) = true := by simp; omega
      have hu1 : IntKind.i64.wrap ((j : Int) + 1) = (j : Int) + 1 := IntWalk.i64_in _ (by omega)
      have hu2 : IntKind.u64.wrap ((j : Int) + 1) = U (BitVec.ofNat 64 (j + 1)) := by rw [U_ofNat _ (by omega)]; rw [IntWalk.u64_in _ (by omega)]; omega
      clear hnew
      go_wp2_with fail
      refine (new_any A1 _ c1 A2 _ c2 A3 _ c3 _ _ _ (BitVec.ofNat 64 (j + 1)) _ hV.rd (by have := HL.out; omega) (by have := HL.out; omega) (by have := HL.out; omega)).mono ?_
      rw [show newL ⟨(capL n j).s, (capL n j).p, (capL n j).i⟩ (BitVec.ofNat 64 (j + 1)) = _ from HNW.out]
      rintro e w3 ⟨B1, d1, B2, d2, B3, d3, rfl, hown, hb3⟩
      dsimp only at hown ⊢
      have hV3 := (hV.belowU hb3).box.alloc (.cells #[.slice B1 (capL n (j + 1)).s.length d1, .slice B2 (capL n (j + 1)).p.length d2, .slice B3 (capL n (j + 1)).i.length d3] 26)
      have hN3 := Blk.new w3 #[.slice B1 (capL n (j + 1)).s.length d1, .slice B2 (capL n (j + 1)).p.length d2, .slice B3 (capL n (j + 1)).i.length d3] 26
      have hB3 := keep_alloc (keep_below hb3 hB) (.cells #[.slice B1 (capL n (j + 1)).s.length d1, .slice B2 (capL n (j + 1)).p.length d2, .slice B3 (capL n (j + 1)).i.length d3] 26)
      have hown4 := hown.below ((Below.refl w3.heap.size w3).alloc (Nat.le_refl _) (.cells #[.slice B1 (capL n (j + 1)).s.length d1, .slice B2 (capL n (j + 1)).p.length d2, .slice B3 (capL n (j + 1)).i.length d3] 26))
      have hsz3 := hb3.size
      obtain ⟨w4, hw4⟩ : ∃ w4, w3.alloc (.cells #[.slice B1 (capL n (j + 1)).s.length d1, .slice B2 (capL n (j + 1)).p.length d2, .slice B3 (capL n (j + 1)).i.length d3] 26) = w4 := ⟨_, rfl⟩
      have hg4 : w3.heap.size < w4.heap.size := by rw [← hw4]; simp
      rw [hw4] at hV3 hN3 hB3 hown4
      have e0 := hN3.cell 0 _ rfl
      have e1 := hN3.cell 1 _ rfl
      have e2 := hN3.cell 2 _ rfl
      have fr := hV3.free
      have b0 := hV3.cell 0 _ rfl
      have b1 := hV3.cell 1 _ rfl
      have b2 := hV3.cell 2 _ rfl
      have G := hV3.put3 (.slice B1 (capL n (j + 1)).s.length d1) (.slice B2 (capL n (j + 1)).p.length d2) (.slice B3 (capL n (j + 1)).i.length d3)
      have hO := Lib.hid (hown4.far3 (g := g) hg2 (.slice B1 (capL n (j + 1)).s.length d1) (.slice B2 (capL n (j + 1)).p.length d2) (.slice B3 (capL n (j + 1)).i.length d3)).rd
      have hB4 := Lib.hid (keep_put3 hB3 hgW (.slice B1 (capL n (j + 1)).s.length d1) (.slice B2 (capL n (j + 1)).p.length d2) (.slice B3 (capL n (j + 1)).i.length d3))
      have HG := Lib.hid G
      have hjj : ((j : Int) != (j : Int)) = false := by simp
      have hjj2 : ((j : Int) + 1 != (j : Int) + 1) = false := by simp
      clear hN3 hB3 hV3 hown hown4 G hV qT0 qT1 qT2 hb3
      go_wp2_with fail
      go_roundw
      case rel => exact ⟨j + 1, B1, d1, B2, d2, B3, d3, by omega, by go_num, ⟨HG.out, hO.out⟩, hB4.out, by simp; omega⟩
      case measure => simp [intOf]; omega
    · obtain rfl : j = n := by omega
      have hd : decide ((j : Int) < j) = false := by simp
      clear hlt hj
      go_wp2_with fail
      refine (new_any A1 _ c1 A2 _ c2 A3 _ c3 _ _ _ 9#64 _ hV.rd (by have := HL.out; omega) (by have := HL.out; omega) (by have := HL.out; omega)).mono ?_
      rw [show newL ⟨(capL j j).s, (capL j j).p, (capL j j).i⟩ 9#64 = _ from HF.out]
      rintro e w3 ⟨B1, d1, B2, d2, B3, d3, rfl, hown, hb3⟩
      dsimp only [Lc.nil, List.length_nil] at hown ⊢
      have hV3 := (hV.belowU hb3).alloc (.cells #[.slice B1 0 d1, .slice B2 0 d2, .slice B3 0 d3] 26)
      have hB3 := keep_alloc (keep_below hb3 hB) (.cells #[.slice B1 0 d1, .slice B2 0 d2, .slice B3 0 d3] 26)
      have hsz3 := hb3.size
      obtain ⟨w4, hw4⟩ : ∃ w4, w3.alloc (.cells #[.slice B1 0 d1, .slice B2 0 d2, .slice B3 0 d3] 26) = w4 := ⟨_, rfl⟩
      have hg4 : w3.heap.size < w4.heap.size := by rw [← hw4]; simp
      rw [hw4] at hV3 hB3
      clear hown hV qT0 qT1 qT2 hb3 hB
      have qT0 := hV3.box.cell 0 _ rfl
      have qT1 := hV3.box.cell 1 _ rfl
      have qT2 := hV3.box.cell 2 _ rfl
      by_cases h0 : j = 0
      · subst h0
        go_wp2_with fail
        refine (awake_any _).mono ?_
        rintro e w5 ⟨rfl, hb5⟩
        go_wp2_with fail
        go_ret
        exact ⟨rfl, keep_below hb5 hB3⟩
      · obtain ⟨hdel, hend⟩ := HD.out.resolve_left h0
        have he0 : ((j : Int) == 0) = false := by simp; omega
        have hq2 : (j : Int).tdiv 2 = (j : Int) / 2 := Int.tdiv_eq_ediv_of_nonneg (by omega)
        have hu1 : IntKind.i64.wrap ((j : Int) / 2) = (j : Int) / 2 := IntWalk.i64_in _ (by omega)
        have hu2 : IntKind.i64.wrap ((j : Int) / 2 + 1) = (j : Int) / 2 + 1 := IntWalk.i64_in _ (by omega)
        rw [show ((j / 2 : Nat) : Int) = (j : Int) / 2 by omega] at hdel
        obtain ⟨r, hr⟩ : ∃ r, newL (capD j) 9#64 = r := ⟨_, rfl⟩
        obtain ⟨x5, r5⟩ := r
        rw [hr] at hend
        dsimp only at hend
        subst hend
        have HE := Lib.hid hr
        have HDL := Lib.hid hdel
        clear hdel hr h0
        go_wp2_with fail
        refine (delete_any A1 _ c1 A2 _ c2 A3 _ c3 _ _ _ ((j : Int) / 2) ((j : Int) / 2 + 1) _ hV3.rd (by have := HL.out; omega) (by have := HL.out; omega) (by have := HL.out; omega)).mono ?_
        rw [show delL ⟨(capL j j).s, (capL j j).p, (capL j j).i⟩ ((j : Int) / 2) ((j : Int) / 2 + 1) = _ from HDL.out]
        rintro e w5 ⟨D1, d1, D2, d2, D3, d3, rfl, hown, hb5⟩
        dsimp only at hown ⊢
        have hB5 := keep_below hb5 hB3
        have hV5 := (hV3.belowU hb5).box
        have fr := hV5.free
        have b0 := hV5.cell 0 _ rfl
        have b1 := hV5.cell 1 _ rfl
        have b2 := hV5.cell 2 _ rfl
        have G := hV5.put3 (.slice D1 (capD j).s.length d1) (.slice D2 (capD j).p.length d2) (.slice D3 (capD j).i.length d3)
        have hO := (hown.far3 (g := g) (by omega) (.slice D1 (capD j).s.length d1) (.slice D2 (capD j).p.length d2) (.slice D3 (capD j).i.length d3)).rd
        have hB6 := keep_put3 hB5 hgW (.slice D1 (capD j).s.length d1) (.slice D2 (capD j).p.length d2) (.slice D3 (capD j).i.length d3)
        obtain ⟨w6, hw6⟩ : ∃ w6, ((w5.setCell ⟨g, 0, none⟩ (.slice D1 (capD j).s.length d1)).setCell ⟨g, 1, none⟩ (.slice D2 (capD j).p.length d2)).setCell ⟨g, 2, none⟩ (.slice D3 (capD j).i.length d3) = w6 := ⟨_, rfl⟩
        rw [hw6] at G hO hB6
        clear hV3 hB3 hV5 hB5 hown hb5 qT0 qT1 qT2
        have HLD := Lib.hid (capD_len j)
        have g0 := G.cell 0 _ rfl
        have g1 := G.cell 1 _ rfl
        have g2 := G.cell 2 _ rfl
        go_wp2_with fail
        refine (new_any D1 _ d1 D2 _ d2 D3 _ d3 _ _ _ 9#64 _ hO (by have := HLD.out; omega) (by have := HLD.out; omega) (by have := HLD.out; omega)).mono ?_
        rw [show newL ⟨(capD j).s, (capD j).p, (capD j).i⟩ 9#64 = _ from HE.out]
        rintro e w7 ⟨E1, e1, E2, e2, E3, e3, rfl, hown, hb7⟩
        dsimp only at hown ⊢
        have hB7 := keep_alloc (keep_below hb7 hB6) (.cells #[.slice E1 x5.s.length e1, .slice E2 x5.p.length e2, .slice E3 x5.i.length e3] 26)
        clear hown hb7 hB6 hO G g0 g1 g2 b0 b1 b2 fr hw6
        have hjj : ((j : Int) == (j : Int)) = true := by simp
        have hjj2 : ((j : Int) + 1 == (j : Int) + 1) = true := by simp
        have hu3 : IntKind.i64.wrap ((j : Int) + 1) = (j : Int) + 1 := IntWalk.i64_in _ (by omega)
        go_wp2_with fail
        refine (awake_any _).mono ?_
        rintro e w8 ⟨rfl, hb8⟩
        go_wp2_with fail
        go_ret
        exact ⟨rfl, keep_below hb8 hB7⟩
end Go.Proofs.Ytmcdhpbkhchpeaa

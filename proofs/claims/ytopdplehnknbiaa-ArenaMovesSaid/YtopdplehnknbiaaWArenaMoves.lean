/- The walk of ArenaMoves. -/
import Derived.Test.YtopdplehnknbiaaArena5
import Derived.Test.YtopdplehnknbiaaASame
namespace Go.Proofs.Ytopdplehnknbiaa
open Go.ChangeShapes Go.WideShapes Go.RowKit Words

theorem moveW_cases (l : List (BitVec 64)) (t f m : Int) : (∃ (i k j : Nat), m = j ∧ i + j ≤ l.length ∧ k + j ≤ l.length ∧ t = 4096 + i ∧ f = 4096 + k ∧ moveW l t f m = (wr l i ((l.drop k).take j), 0)) ∨ (∃ er : Int, (er != 0) = true ∧ moveW l t f m = ([], er)) := by
  by_cases hm : m < 0
  · exact Or.inr ⟨1, rfl, by unfold moveW; rw [if_pos hm]⟩
  · obtain ⟨j, rfl⟩ := Int.eq_ofNat_of_zero_le (Int.not_lt.1 hm)
    rcases placeW_cases l.length t j (by omega) with ⟨i, hi, ht, hp⟩ | ⟨y, hp⟩
    · rcases placeW_cases l.length f j (by omega) with ⟨k, hk, hf, hp2⟩ | ⟨y, hp2⟩
      · simp only [Int.toNat_natCast] at hi hk
        exact Or.inl ⟨i, k, j, rfl, hi, hk, ht, hf, by unfold moveW; rw [if_neg hm, hp, hp2, if_pos ⟨rfl, rfl⟩]; rfl⟩
      · exact Or.inr ⟨2, rfl, by unfold moveW; rw [if_neg hm, hp, hp2, if_neg (fun h => by cases h.2)]⟩
    · exact Or.inr ⟨2, rfl, by unfold moveW; rw [if_neg hm, hp, if_neg (fun h => by cases h.1)]⟩
theorem load_at (l : List (BitVec 64)) (i : Nat) (v : BitVec 64) (h : l[i]? = some v) : loadW l (4096 + i) = (v, 0) := by
  obtain ⟨hi, rfl⟩ := List.getElem?_eq_some_iff.1 h
  rcases indexW_cases l.length (4096 + i) with ⟨j, hj, he, -, hx⟩ | ⟨⟨j, hp⟩, hx⟩
  · have : j = i := by omega
    subst this
    unfold loadW
    rw [hx, if_pos rfl]
    simp only [Int.toNat_natCast]
    rw [List.getD_eq_getElem?_getD, h]
    rfl
  · exfalso
    unfold placeW at hp
    rw [if_neg (by omega), Prod.mk.injEq, decide_eq_false_iff_not] at hp
    omega

theorem walkArenaMoves {H : Type} {enc : TypeId × Value → H} (W : World) (base : Nat) {v0 v1 v2 v3 : Value} {d0 d1 d2 d3 : DataW H} {p0 p1 p2 p3 : List MemPlace}
    (o0 : Value.okWide Try.prog W .any base 22 v0) (h0 : DataW.Trod enc Try.prog W 0 (fun _ => true) true 22 v0 d0 p0)
    (o1 : Value.okWide Try.prog W .any base 23 v1) (h1 : DataW.Trod enc Try.prog W 0 (fun _ => true) true 23 v1 d1 p1)
    (o2 : Value.okWide Try.prog W .any base 23 v2) (h2 : DataW.Trod enc Try.prog W 0 (fun _ => true) true 23 v2 d2 p2)
    (o3 : Value.okWide Try.prog W .any base 3 v3) (h3 : DataW.Trod enc Try.prog W 0 (fun _ => true) true 3 v3 d3 p3) :
    Calls Try.prog 5 #[v0, v1, v2, v3] W fun e w' => e = .returned (.bool true) ∧ Below W.heap.size W w' := by
  obtain ⟨A, n, c, l, rfl, hr⟩ := open_words Try.underlying22 Try.underlying23 (by kernel_rfl) o0 h0
  obtain ⟨t, rfl⟩ := open_word Try.underlying23 o1 h1
  obtain ⟨f, rfl⟩ := open_word Try.underlying23 o2 h2
  obtain ⟨m, rfl, -, -⟩ := open_i64 Try.underlying3 o3 h3
  clear h0 o0 h1 o1 h2 o2 h3 o3
  have hlen := hr.length (fun _ => rfl) (by omega)
  have hle := hr.le
  by_cases hl : n ≤ 500
  · have hN : n ≤ 1000000 := by omega
    rcases moveW_cases l (U t) (U f) m with ⟨i, k, j, hmj, hi, hk, ht, hf, hmv⟩ | ⟨er, her, hmv⟩
    · subst hmj
      rw [hlen] at hi hk
      have hwl : (wr l i ((l.drop k).take j)).length = n := by rw [wr_len _ _ _ (by rw [List.length_take, List.length_drop]; omega), hlen]
      have hwg : ∀ q, q < j → ∃ v, (wr l i ((l.drop k).take j))[i + q]? = some v ∧ l[k + q]? = some v := by
        intro q hq
        refine ⟨l[k + q]'(by omega), ?_, List.getElem?_eq_getElem (by omega)⟩
        rw [wr_get _ _ _ (by rw [List.length_take, List.length_drop]; omega), if_neg (by omega), if_pos (by rw [List.length_take, List.length_drop]; omega), Nat.add_sub_cancel_left, List.getElem?_take, if_pos hq, List.getElem?_drop, List.getElem?_eq_getElem]
      obtain ⟨x, hx⟩ : ∃ x, wr l i ((l.drop k).take j) = x := ⟨_, rfl⟩
      rw [hx] at hmv hwl hwg
      have HM := Lib.hid hmv
      have HG := Lib.hid hwg
      have HW := Lib.hid hwl
      have HT := Lib.hid ht
      have HF := Lib.hid hf
      clear hmv hwg hwl hx hlen ht hf
      go_enter Try.func5, Try.ntmps5
      go_wp2_with (go_at_call 8; refine (light_any _ _ _ _).mono ?_; rintro e w' ⟨rfl, rfl⟩; rw [decide_eq_true hl])
      refine (move_any A n c l t f _ _ hr hN).mono ?_
      rw [HM.out]
      rintro e w1 ⟨A1, c1, rfl, hr1, hb1⟩
      dsimp only at hr1 ⊢
      rw [HW.out] at hr1 ⊢
      have hr := hr.belowU hb1
      go_wp2_with fail
      go_loop [11] (fun y => ∃ q : Nat, q ≤ j ∧ y = .int .i64 q) (fun y => j - (intOf y).toNat)
      case atStart => exact ⟨0, Nat.zero_le _, rfl⟩
      case round =>
        obtain ⟨q, hq, rfl⟩ := hrel
        by_cases hlt : q < j
        · obtain ⟨v, hv1, hv2⟩ := HG.out q hlt
          have a1 := U_ofNat (4096 + (i + q)) (by omega)
          have a2 := U_ofNat (4096 + (k + q)) (by omega)
          obtain ⟨at1, hat1⟩ : ∃ at1, at1 = BitVec.ofNat 64 (4096 + (i + q)) := ⟨_, rfl⟩
          obtain ⟨at2, hat2⟩ : ∃ at2, at2 = BitVec.ofNat 64 (4096 + (k + q)) := ⟨_, rfl⟩
          rw [← hat1] at a1
          rw [← hat2] at a2
          clear hat1 hat2
          have l1 : loadW x (U at1) = (v, 0) := by rw [a1]; simpa using load_at x (i + q) v hv1
          have l2 : loadW l (U at2) = (v, 0) := by rw [a2]; simpa using load_at l (k + q) v hv2
          have L1 := Lib.hid l1
          have L2 := Lib.hid l2
          have w1 : IntKind.u64.wrap (U t + (q : Int)) = U at1 := by rw [a1, HT.out, IntWalk.u64_in _ (by omega)]; omega
          have w2 : IntKind.u64.wrap (U f + (q : Int)) = U at2 := by rw [a2, HF.out, IntWalk.u64_in _ (by omega)]; omega
          have w3 : IntKind.u64.wrap (q : Int) = (q : Int) := IntWalk.u64_in _ (by omega)
          clear hv1 hv2 a1 a2 l1 l2
          go_wp2_with fail
          refine (load_any A1 n c1 x at1 _ hr1 hN).mono ?_
          rw [L1.out]
          rintro e w2 ⟨rfl, rfl⟩
          unfold retW
          dsimp only
          go_wp2_with fail
          refine (load_any A n c l at2 _ hr hN).mono ?_
          rw [L2.out]
          rintro e w2 ⟨rfl, rfl⟩
          unfold retW
          dsimp only
          go_wp2_with fail
          go_round
          case rel => exact ⟨q + 1, by omega, by go_num⟩
          case measure => simp [intOf]; omega
        · go_wp2_with fail
          refine (awake_any _).mono ?_
          rintro e w3 ⟨rfl, hb3⟩
          go_wp2_with fail
          go_ret
          exact ⟨rfl, keep_below hb3 hb1⟩
    · have HM := Lib.hid hmv
      clear hmv
      go_enter Try.func5, Try.ntmps5
      go_wp2_with (go_at_call 8; refine (light_any _ _ _ _).mono ?_; rintro e w' ⟨rfl, rfl⟩; rw [decide_eq_true hl])
      refine (move_any A n c l t f _ _ hr hN).mono ?_
      rw [HM.out]
      rintro e w1 ⟨A1, c1, rfl, hr1, hb1⟩
      dsimp only [List.length_nil] at hr1 ⊢
      go_wp2_with fail
      refine (awake_any _).mono ?_
      rintro e w3 ⟨rfl, hb3⟩
      go_wp2_with fail
      go_ret
      exact ⟨rfl, keep_below hb3 hb1⟩
  · go_enter Try.func5, Try.ntmps5
    go_wp2_with (go_at_call 8; refine (light_any _ _ _ _).mono ?_; rintro e w' ⟨rfl, rfl⟩; rw [decide_eq_false hl])
    go_ret
    exact ⟨rfl, Below.refl _ _⟩
end Go.Proofs.Ytopdplehnknbiaa

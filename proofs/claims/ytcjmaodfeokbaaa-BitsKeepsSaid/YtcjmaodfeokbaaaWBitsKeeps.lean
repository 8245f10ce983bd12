/- The walk of BitsKeeps. -/
import Derived.Test.YtcjmaodfeokbaaaAwake
import Derived.Test.YtcjmaodfeokbaaaOpen
import Derived.Test.YtcjmaodfeokbaaaGet
import Derived.Test.YtcjmaodfeokbaaaKeeps
namespace Go.Proofs.Ytcjmaodfeokbaaa
open Go.RowKit Words

attribute [local go_sem ↓] Words.bits_and_one Words.bits_or Words.bits_and Words.bits_andNot Words.shr_any Words.shl_any Words.wrap_U Words.shr_U

theorem walkBitsKeeps {H : Type} {enc : TypeId × Value → H} (W : World) (base : Nat) {v0 v1 v2 v3 v4 : Value} {d0 d1 d2 d3 d4 : DataW H} {p0 p1 p2 p3 p4 : List MemPlace}
    (o0 : Value.okWide Try.prog W .any base 23 v0) (h0 : DataW.Trod enc Try.prog W 0 (fun _ => true) true 23 v0 d0 p0)
    (o1 : Value.okWide Try.prog W .any base 23 v1) (h1 : DataW.Trod enc Try.prog W 0 (fun _ => true) true 23 v1 d1 p1)
    (o2 : Value.okWide Try.prog W .any base 3 v2) (h2 : DataW.Trod enc Try.prog W 0 (fun _ => true) true 3 v2 d2 p2)
    (o3 : Value.okWide Try.prog W .any base 3 v3) (h3 : DataW.Trod enc Try.prog W 0 (fun _ => true) true 3 v3 d3 p3)
    (o4 : Value.okWide Try.prog W .any base 3 v4) (h4 : DataW.Trod enc Try.prog W 0 (fun _ => true) true 3 v4 d4 p4) :
    Calls Try.prog 6 #[v0, v1, v2, v3, v4] W fun e w' => e = .returned (.bool true) ∧ Below W.heap.size W w' := by
  obtain ⟨w, rfl⟩ := open_word Try.underlying23 o0 h0
  obtain ⟨v, rfl⟩ := open_word Try.underlying23 o1 h1
  obtain ⟨i, rfl, hi1, hi2⟩ := open_i64 Try.underlying3 o2 h2
  obtain ⟨n, rfl, _, _⟩ := open_i64 Try.underlying3 o3 h3
  obtain ⟨other, rfl, _, _⟩ := open_i64 Try.underlying3 o4 h4
  clear h0 o0 h1 o1 h2 o2 h3 o3 h4 o4
  by_cases hs : spn i n = true
  · by_cases hf : (v &&& ~~~ones n.toNat == 0#64) = true
    · obtain ⟨s0, s1, s2, s3⟩ := (spn_iff i n).1 hs
      have hf' : v &&& ~~~ones n.toNat = 0#64 := by simpa using hf
      have hset : setS w i n v = ((w &&& ~~~(ones n.toNat <<< i.toNat)) ||| (v <<< i.toNat), 0) := by unfold setS; rw [if_pos hs, if_pos hf]
      have hget : getS ((w &&& ~~~(ones n.toNat <<< i.toNat)) ||| (v <<< i.toNat)) i n = (v, 0) := by
        unfold getS; rw [if_pos hs, get_set w v i.toNat n.toNat (by omega) hf']
      have j1 : -64 < other.tmod 64 := Int.lt_tmod_of_pos other (by omega)
      have j2 : other.tmod 64 < 64 := Int.tmod_lt_of_pos other (by omega)
      have hk := keep_bit w v i.toNat n.toNat (other.tmod 64 % 64).toNat (by omega)
      generalize hx : ((w &&& ~~~(ones n.toNat <<< i.toNat)) ||| (v <<< i.toNat)) = x at *
      have HS := Lib.hid hset
      have HG := Lib.hid hget
      have HK := Lib.hid hk
      have HF := Lib.hid hf'
      clear hset hget hk hf hf' hs hx
      by_cases t1 : i ≤ other.tmod 64 % 64
      · by_cases t2 : other.tmod 64 % 64 < i + n
        · go_enter Try.func6, Try.ntmps6
          go_wp2_with (first
            | (go_at_call 9; refine (awake_any _).mono ?_; rintro e w1 ⟨rfl, hb⟩)
            | (go_at_call 15; refine (get_any _ _ _ _).mono ?_; rintro e w' ⟨rfl, m, rfl⟩; rw [HG.out]; unfold retW)
            | (go_at_call 17; refine (set_any _ _ _ _ _).mono ?_; rintro e w' ⟨rfl, m, rfl⟩; rw [HS.out]; unfold retW))
          go_ret
          exact ⟨rfl, (below_drewN (Below.refl _ _) _).trans hb⟩
        · have hk := HK.out (by omega) HF.out
          go_enter Try.func6, Try.ntmps6
          go_wp2_with (first
            | (go_at_call 9; refine (awake_any _).mono ?_; rintro e w1 ⟨rfl, hb⟩)
            | (go_at_call 15; refine (get_any _ _ _ _).mono ?_; rintro e w' ⟨rfl, m, rfl⟩; rw [HG.out]; unfold retW)
            | (go_at_call 17; refine (set_any _ _ _ _ _).mono ?_; rintro e w' ⟨rfl, m, rfl⟩; rw [HS.out]; unfold retW))
          go_ret
          exact ⟨rfl, (below_drewN (Below.refl _ _) _).trans hb⟩
      · have hk := HK.out (by omega) HF.out
        go_enter Try.func6, Try.ntmps6
        go_wp2_with (first
          | (go_at_call 9; refine (awake_any _).mono ?_; rintro e w1 ⟨rfl, hb⟩)
          | (go_at_call 15; refine (get_any _ _ _ _).mono ?_; rintro e w' ⟨rfl, m, rfl⟩; rw [HG.out]; unfold retW)
          | (go_at_call 17; refine (set_any _ _ _ _ _).mono ?_; rintro e w' ⟨rfl, m, rfl⟩; rw [HS.out]; unfold retW))
        go_ret
        exact ⟨rfl, (below_drewN (Below.refl _ _) _).trans hb⟩
    · have hset : setS w i n v = (0#64, 2) := by unfold setS; rw [if_pos hs, if_neg hf]
      have HS := Lib.hid hset
      clear hset
      go_enter Try.func6, Try.ntmps6
      go_wp2_with (first
        | (go_at_call 9; refine (awake_any _).mono ?_; rintro e w1 ⟨rfl, hb⟩)
        | (go_at_call 17; refine (set_any _ _ _ _ _).mono ?_; rintro e w' ⟨rfl, m, rfl⟩; rw [HS.out]; unfold retW))
      go_ret
      exact ⟨rfl, (below_drewN (Below.refl _ _) _).trans hb⟩
  · have hset : setS w i n v = (0#64, 1) := by unfold setS; rw [if_neg hs]
    have HS := Lib.hid hset
    clear hset
    go_enter Try.func6, Try.ntmps6
    go_wp2_with (first
      | (go_at_call 9; refine (awake_any _).mono ?_; rintro e w1 ⟨rfl, hb⟩)
      | (go_at_call 17; refine (set_any _ _ _ _ _).mono ?_; rintro e w' ⟨rfl, m, rfl⟩; rw [HS.out]; unfold retW))
    go_ret
    exact ⟨rfl, (below_drewN (Below.refl _ _) _).trans hb⟩
end Go.Proofs.Ytcjmaodfeokbaaa

/- The walk of HeaderApart. -/
import Derived.Test.YtcnlfokgofmnkaaHAwake
import Derived.Test.YtcnlfokgofmnkaaForward
namespace Go.Proofs.Ytcnlfokgofmnkaa
open Go.ChangeShapes Go.WideShapes Go.RowKit Words

theorem apart (x : BitVec 64) : ∃ (k len m y : Int) (a b : Bool), retD x = .returned (.tuple #[headV k len m, .bool a]) ∧ retT x = .returned (.tuple #[.int .u64 y, .bool b]) ∧ (a && b) = false := by
  unfold retD retT
  by_cases ha : decOk x = true
  · have hb : ¬ tgtOk x = true := by
      simp only [decOk, tgtOk, Bool.and_eq_true, decide_eq_true_eq] at ha ⊢
      omega
    rw [if_pos ha, if_neg hb]
    exact ⟨_, _, _, _, _, _, rfl, rfl, rfl⟩
  · rw [if_neg ha]
    by_cases hb : tgtOk x = true
    · rw [if_pos hb]; exact ⟨_, _, _, _, _, _, rfl, rfl, rfl⟩
    · rw [if_neg hb]; exact ⟨_, _, _, _, _, _, rfl, rfl, rfl⟩

theorem walkHeaderApart {H : Type} {enc : TypeId × Value → H} (W : World) (base : Nat) {v0 : Value} {d0 : DataW H} {p0 : List MemPlace}
    (o0 : Value.okWide Try.prog W .any base 25 v0) (h0 : DataW.Trod enc Try.prog W 0 (fun _ => true) true 25 v0 d0 p0) :
    Calls Try.prog 8 #[v0] W fun e w' => e = .returned (.bool true) ∧ Below W.heap.size W w' := by
  obtain ⟨x, rfl⟩ := open_word Try.underlying25 o0 h0
  clear h0 o0
  obtain ⟨k, len, m, y, a, b, hd, ht, hab⟩ := apart x
  have hd0 : retD 0#64 = .returned (.tuple #[headV 0 0 0, .bool false]) := rfl
  have ht0 : retT 0#64 = .returned (.tuple #[.int .u64 0, .bool false]) := rfl
  have HD := Lib.hid hd
  have HT := Lib.hid ht
  have HD0 := Lib.hid hd0
  have HT0 := Lib.hid ht0
  clear hd ht hd0 ht0
  cases a <;> cases b <;> first | (exact absurd hab (by decide)) | skip
  all_goals
    clear hab
    go_enter Try.func8, Try.ntmps8
    go_wp2_with fail
    refine (decode_any x _).mono ?_
    rw [HD.out]
    rintro e w1 ⟨rfl, hb1⟩
    go_wp2_with fail
    refine (target_any x _).mono ?_
    rw [HT.out]
    rintro e w2 ⟨rfl, hb2⟩
    go_wp2_with fail
    refine (decode_any 0#64 _).mono ?_
    rw [HD0.out]
    rintro e w3 ⟨rfl, hb3⟩
    go_wp2_with fail
    refine (target_any 0#64 _).mono ?_
    rw [HT0.out]
    rintro e w4 ⟨rfl, hb4⟩
    go_wp2_with fail
    refine (hawake_any _).mono ?_
    rintro e w5 ⟨rfl, hb5⟩
    go_wp2_with fail
    go_ret
    exact ⟨rfl, by repeat (first | exact Below.refl _ _ | assumption | refine keep_alloc ?_ _ | refine keep_below (by assumption) ?_)⟩
end Go.Proofs.Ytcnlfokgofmnkaa

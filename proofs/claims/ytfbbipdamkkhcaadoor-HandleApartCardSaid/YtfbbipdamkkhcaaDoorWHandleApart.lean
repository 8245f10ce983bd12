/- The walk of HandleApart. -/
import Derived.Test.YtfbbipdamkkhcaaDoorHandle4
namespace Go.Proofs.YtfbbipdamkkhcaaDoor
open Go.ChangeShapes Go.WideShapes Go.RowKit Words

theorem small_dec (x : BitVec 64) (h : U x < 262144) : retD x = if U x = 0 then retH 0 0 0 5 else retH 0 0 0 6 := by
  unfold retD
  split
  · rfl
  · have h0 := U_nonneg x
    have hs : decS x = 0 := by unfold decS; omega
    have hd : decOk x = false := by unfold decOk; rw [hs]; simp [validD]
    rw [hd]
    rfl

theorem walkHandleApart {H : Type} {enc : TypeId × Value → H} (W : World) (base : Nat) (hT : Tab W) {v0 : Value} {d0 : DataW H} {p0 : List MemPlace}
    (o0 : Value.okWide Tryd.prog W .any base 24 v0) (h0 : DataW.Trod enc Tryd.prog W 0 (fun _ => true) true 24 v0 d0 p0) :
    Calls Tryd.prog 6 #[v0] W fun e w' => e = .returned (.bool true) ∧ Below W.heap.size W w' := by
  obtain ⟨x, rfl⟩ := open_word Tryd.underlying24 o0 h0
  clear h0 o0
  have hr := U_range x
  have hy : ∃ y : BitVec 64, U y = U x % 262144 ∧ U y < 262144 := by
    refine ⟨BitVec.ofInt 64 (U x % 262144), ?_, ?_⟩
    · rw [U_ofInt _ (by omega) (by omega)]
    · rw [U_ofInt _ (by omega) (by omega)]; omega
  obtain ⟨y, hy1, hy2⟩ := hy
  have hd := small_dec y hy2
  have hm2 : U x % 262144 = U y := hy1.symm
  have hm : (U x).tmod 262144 = U y := by rw [Int.tmod_eq_emod_of_nonneg hr.1, hm2]
  have wy : IntKind.u64.wrap (U y) = U y := wrap_U y
  clear hy1
  by_cases hz : U y = 0
  · rw [if_pos hz] at hd
    have HD := Lib.hid hd
    have z1 : (U y == 0) = true := by rw [hz]; rfl
    clear hd hz hr hy2
    go_enter Tryd.func6, Tryd.ntmps6
    go_wp2_with fail
    refine (decode_any y _ hT).mono ?_
    rw [HD.out]
    rintro e w1 ⟨rfl, hb1⟩
    unfold retH
    have T1 := (hT.below hb1).alloc (.cells #[.int .i64 0, .int .i64 0, .int .i64 0] 23)
    go_wp2_with fail
    refine (hawake_any _ T1).mono ?_
    rintro e w5 ⟨rfl, hb5⟩
    go_wp2_with fail
    go_ret
    exact ⟨rfl, by repeat (first | exact Below.refl _ _ | assumption | refine keep_alloc ?_ _ | refine keep_below (by assumption) ?_)⟩
  · rw [if_neg hz] at hd
    have HD := Lib.hid hd
    have z1 : (U y == 0) = false := by simp [hz]
    have z2 : (U y != 0) = true := by simp [hz]
    clear hd hz hr hy2
    go_enter Tryd.func6, Tryd.ntmps6
    go_wp2_with fail
    refine (decode_any y _ hT).mono ?_
    rw [HD.out]
    rintro e w1 ⟨rfl, hb1⟩
    unfold retH
    have T1 := (hT.below hb1).alloc (.cells #[.int .i64 0, .int .i64 0, .int .i64 0] 23)
    go_wp2_with fail
    refine (hawake_any _ T1).mono ?_
    rintro e w5 ⟨rfl, hb5⟩
    go_wp2_with fail
    go_ret
    exact ⟨rfl, by repeat (first | exact Below.refl _ _ | assumption | refine keep_alloc ?_ _ | refine keep_below (by assumption) ?_)⟩
end Go.Proofs.YtfbbipdamkkhcaaDoor

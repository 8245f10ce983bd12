/- The walk of HeaderForwards. -/
import Derived.Test.YtcnlfokgofmnkaaHAwake
import Derived.Test.YtcnlfokgofmnkaaForward
namespace Go.Proofs.Ytcnlfokgofmnkaa
open Go.ChangeShapes Go.WideShapes Go.RowKit Words

theorem tgt_fwd (a : BitVec 64) (h : (fwd a).2 = 0) : retT (fwd a).1 = .returned (.tuple #[.int .u64 (U a), .bool true]) := by
  unfold fwd at h ⊢
  split
  · rename_i hlt
    have h0 := U_nonneg a
    have hu := U_ofInt (4 * U a + 2) (by omega) (by omega)
    have hs : BitVec.ofInt 64 (4 * U a + 2) >>> 2 = a := by
      apply U_inj
      rw [U_shr, hu]
      omega
    unfold retT tgtOk
    simp only [hu, hs]
    have e1 : (4 * U a + 2) % 4 = 2 := by omega
    have e2 : 4 * U a + 2 < 17179869184 := by omega
    simp [e1, e2]
  · rename_i hlt
    rw [if_neg hlt] at h
    cases h

theorem walkHeaderForwards {H : Type} {enc : TypeId × Value → H} (W : World) (base : Nat) {v0 v1 : Value} {d0 d1 : DataW H} {p0 p1 : List MemPlace}
    (o0 : Value.okWide Try.prog W .any base 25 v0) (h0 : DataW.Trod enc Try.prog W 0 (fun _ => true) true 25 v0 d0 p0)
    (o1 : Value.okWide Try.prog W .any base 25 v1) (h1 : DataW.Trod enc Try.prog W 0 (fun _ => true) true 25 v1 d1 p1) :
    Calls Try.prog 7 #[v0, v1] W fun e w' => e = .returned (.bool true) ∧ Below W.heap.size W w' := by
  obtain ⟨a, rfl⟩ := open_word Try.underlying25 o0 h0
  obtain ⟨x, rfl⟩ := open_word Try.underlying25 o1 h1
  clear h0 o0 h1 o1
  obtain ⟨y, b, hr⟩ : ∃ (y : Int) (b : Bool), retT x = .returned (.tuple #[.int .u64 y, .bool b]) := by
    unfold retT; split
    · exact ⟨_, _, rfl⟩
    · exact ⟨_, _, rfl⟩
  have HR := Lib.hid hr
  clear hr
  have htf := tgt_fwd a
  obtain ⟨z, er, hf⟩ : ∃ z er, fwd a = (z, er) := by
    rcases fwd a with ⟨z, er⟩
    exact ⟨z, er, rfl⟩
  rw [hf] at htf
  have HF := Lib.hid hf
  clear hf
  by_cases he : er = 0
  · have HT := Lib.hid (htf he)
    subst he
    clear htf
    go_enter Try.func7, Try.ntmps7
    go_wp2_with fail
    refine (forward_any a _).mono ?_
    rw [HF.out]
    rintro e w1 ⟨rfl, hb1⟩
    unfold retW
    go_wp2_with fail
    refine (rforward_any a _).mono ?_
    rw [HF.out]
    rintro e w' ⟨rfl, rfl⟩
    unfold retW
    go_wp2_with fail
    refine (target_any x _).mono ?_
    rw [HR.out]
    rintro e w2 ⟨rfl, hb2⟩
    go_wp2_with fail
    refine (rtarget_any x _).mono ?_
    rw [HR.out]
    rintro e w' ⟨rfl, rfl⟩
    go_wp2_with fail
    refine (target_any z _).mono ?_
    rw [HT.out]
    rintro e w3 ⟨rfl, hb3⟩
    go_wp2_with fail
    refine (hawake_any _).mono ?_
    rintro e w4 ⟨rfl, hb4⟩
    go_wp2_with fail
    go_ret
    exact ⟨rfl, keep_below hb4 (keep_below hb3 (keep_below hb2 hb1))⟩
  · have he' : (er == 0) = false := by simp [he]
    clear htf he
    go_enter Try.func7, Try.ntmps7
    go_wp2_with fail
    refine (forward_any a _).mono ?_
    rw [HF.out]
    rintro e w1 ⟨rfl, hb1⟩
    unfold retW
    go_wp2_with fail
    refine (rforward_any a _).mono ?_
    rw [HF.out]
    rintro e w' ⟨rfl, rfl⟩
    unfold retW
    go_wp2_with fail
    refine (target_any x _).mono ?_
    rw [HR.out]
    rintro e w2 ⟨rfl, hb2⟩
    go_wp2_with fail
    refine (rtarget_any x _).mono ?_
    rw [HR.out]
    rintro e w' ⟨rfl, rfl⟩
    go_wp2_with fail
    refine (hawake_any _).mono ?_
    rintro e w4 ⟨rfl, hb4⟩
    go_wp2_with fail
    go_ret
    exact ⟨rfl, keep_below hb4 (keep_below hb2 hb1)⟩
end Go.Proofs.Ytcnlfokgofmnkaa

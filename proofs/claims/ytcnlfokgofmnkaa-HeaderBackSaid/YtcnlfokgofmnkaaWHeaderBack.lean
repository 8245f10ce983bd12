/- The walk of HeaderBack. -/
import Derived.Test.YtcnlfokgofmnkaaHAwake
import Derived.Test.YtcnlfokgofmnkaaForward
namespace Go.Proofs.Ytcnlfokgofmnkaa
open Go.ChangeShapes Go.WideShapes Go.RowKit Words

theorem dec_of_enc (k len m : Int) (hm0 : 0 ≤ m) (hm1 : m ≤ 4294967295) (h : (encH k len m).2 = 0) : retD (encH k len m).1 = .returned (.tuple #[headV k len m, .bool true]) := by
  unfold encH at h ⊢
  split
  · rename_i hv
    have hr : 0 ≤ k ∧ k ≤ 3 ∧ 0 ≤ len ∧ len ≤ 255 := by
      have := hv
      simp only [validH, Bool.and_eq_true, decide_eq_true_eq] at this
      exact ⟨this.1.1.1.1, this.1.1.1.2, this.1.1.2, this.1.2⟩
    obtain ⟨k0, k1, l0, l1⟩ := hr
    have hu := U_ofInt (1 + 4 * k + 16 * len + 65536 * m) (by omega) (by omega)
    have e1 : decK (BitVec.ofInt 64 (1 + 4 * k + 16 * len + 65536 * m)) = k := by unfold decK; rw [hu]; omega
    have e2 : decL (BitVec.ofInt 64 (1 + 4 * k + 16 * len + 65536 * m)) = len := by unfold decL; rw [hu]; omega
    have e3 : decM (BitVec.ofInt 64 (1 + 4 * k + 16 * len + 65536 * m)) = m := by unfold decM; rw [hu]; omega
    have e4 : (1 + 4 * k + 16 * len + 65536 * m) % 4 = 1 := by omega
    have e5 : 1 + 4 * k + 16 * len + 65536 * m < 281474976710656 := by omega
    unfold retD decOk
    simp only [e1, e2, e3, hu, hv]
    simp [e4, e5]
  · rename_i hv
    rw [if_neg hv] at h
    cases h

/-- the second half: a word that is decoded is the one of its header -/
theorem back2 (x : BitVec 64) : (∃ k len m : Int, retD x = .returned (.tuple #[headV k len m, .bool true]) ∧ encH k len m = (x, 0) ∧ 0 ≤ m ∧ m ≤ 4294967295) ∨ retD x = .returned (.tuple #[headV 0 0 0, .bool false]) := by
  by_cases hd : decOk x = true
  · obtain ⟨h2, h1⟩ := (dec_enc x).1 hd
    obtain ⟨_, _, _, _, m0, m1⟩ := dec_range x
    refine Or.inl ⟨decK x, decL x, decM x, ?_, Prod.ext h1 h2, m0, m1⟩
    unfold retD; rw [if_pos hd]
  · right
    unfold retD; rw [if_neg hd]

set_option maxHeartbeats 1000000 in
theorem walkHeaderBack {H : Type} {enc : TypeId × Value → H} (W : World) (base : Nat) {v0 v1 : Value} {d0 d1 : DataW H} {p0 p1 : List MemPlace}
    (o0 : Value.okWide Try.prog W .any base 24 v0) (h0 : DataW.Trod enc Try.prog W 0 (fun _ => true) true 24 v0 d0 p0)
    (o1 : Value.okWide Try.prog W .any base 25 v1) (h1 : DataW.Trod enc Try.prog W 0 (fun _ => true) true 25 v1 d1 p1) :
    Calls Try.prog 6 #[v0, v1] W fun e w' => e = .returned (.bool true) ∧ Below W.heap.size W w' := by
  obtain ⟨k, len, m, rfl, _, _, hm0, hm1⟩ := open_head o0 h0
  obtain ⟨x, rfl⟩ := open_word Try.underlying25 o1 h1
  clear h0 o0 h1 o1
  have hde := dec_of_enc k len m hm0 hm1
  obtain ⟨y, er, hf⟩ : ∃ y er, encH k len m = (y, er) := by
    rcases encH k len m with ⟨z, er⟩
    exact ⟨z, er, rfl⟩
  rw [hf] at hde
  have HE := Lib.hid hf
  have M0 := Lib.hid hm0
  have M1 := Lib.hid hm1
  clear hf hm0 hm1
  rcases back2 x with ⟨k', len', m', hd, he2, m0', m1'⟩ | hd
  · have HD := Lib.hid hd
    have HE2 := Lib.hid he2
    have N0 := Lib.hid m0'
    have N1 := Lib.hid m1'
    clear hd he2 m0' m1'
    by_cases her : er = 0
    · have HDE := Lib.hid (hde her)
      subst her
      clear hde
      go_enter Try.func6, Try.ntmps6
      go_wp2_with fail
      have B0 := Blk.new W #[.int .i64 k, .int .i64 len, .int .u32 m] 24
      refine (encode_any k len m _ M0.out M1.out).mono ?_
      rw [HE.out]
      rintro e w1 ⟨rfl, hb1⟩
      unfold retW
      have B1 := B0.below hb1
      clear B0
      go_wp2_with fail
      refine (decode_any y _).mono ?_
      rw [HDE.out]
      rintro e w2 ⟨rfl, hb2⟩
      have B2 := (B1.below hb2).alloc (.cells #[.int .i64 k, .int .i64 len, .int .u32 m] 24)
      clear B1
      have c0 : (w2.alloc (.cells #[.int .i64 k, .int .i64 len, .int .u32 m] 24)).cell? ⟨W.heap.size, 0, none⟩ = some (.int .i64 k) := B2.cell 0 _ rfl
      have c1 : (w2.alloc (.cells #[.int .i64 k, .int .i64 len, .int .u32 m] 24)).cell? ⟨W.heap.size, 1, none⟩ = some (.int .i64 len) := B2.cell 1 _ rfl
      have c2 : (w2.alloc (.cells #[.int .i64 k, .int .i64 len, .int .u32 m] 24)).cell? ⟨W.heap.size, 2, none⟩ = some (.int .u32 m) := B2.cell 2 _ rfl
      go_wp2_with fail
      refine (decode_any x _).mono ?_
      rw [HD.out]
      rintro e w3 ⟨rfl, hb3⟩
      go_wp2_with fail
      refine (encode_any k' len' m' _ N0.out N1.out).mono ?_
      rw [HE2.out]
      rintro e w4 ⟨rfl, hb4⟩
      unfold retW
      go_wp2_with fail
      refine (hawake_any _).mono ?_
      rintro e w5 ⟨rfl, hb5⟩
      go_wp2_with fail
      go_ret
      exact ⟨rfl, by repeat (first | exact Below.refl _ _ | assumption | refine keep_alloc ?_ _ | refine keep_below (by assumption) ?_)⟩
    · have her' : (er == 0) = false := by simp [her]
      clear hde her
      go_enter Try.func6, Try.ntmps6
      go_wp2_with fail
      refine (encode_any k len m _ M0.out M1.out).mono ?_
      rw [HE.out]
      rintro e w1 ⟨rfl, hb1⟩
      unfold retW
      go_wp2_with fail
      refine (decode_any x _).mono ?_
      rw [HD.out]
      rintro e w3 ⟨rfl, hb3⟩
      go_wp2_with fail
      refine (encode_any k' len' m' _ N0.out N1.out).mono ?_
      rw [HE2.out]
      rintro e w4 ⟨rfl, hb4⟩
      unfold retW
      go_wp2_with fail
      refine (hawake_any _).mono ?_
      rintro e w5 ⟨rfl, hb5⟩
      go_wp2_with fail
      go_ret
      exact ⟨rfl, by repeat (first | exact Below.refl _ _ | assumption | refine keep_alloc ?_ _ | refine keep_below (by assumption) ?_)⟩
  · have HD := Lib.hid hd
    clear hd
    by_cases her : er = 0
    · have HDE := Lib.hid (hde her)
      subst her
      clear hde
      go_enter Try.func6, Try.ntmps6
      go_wp2_with fail
      have B0 := Blk.new W #[.int .i64 k, .int .i64 len, .int .u32 m] 24
      refine (encode_any k len m _ M0.out M1.out).mono ?_
      rw [HE.out]
      rintro e w1 ⟨rfl, hb1⟩
      unfold retW
      have B1 := B0.below hb1
      clear B0
      go_wp2_with fail
      refine (decode_any y _).mono ?_
      rw [HDE.out]
      rintro e w2 ⟨rfl, hb2⟩
      have B2 := (B1.below hb2).alloc (.cells #[.int .i64 k, .int .i64 len, .int .u32 m] 24)
      clear B1
      have c0 : (w2.alloc (.cells #[.int .i64 k, .int .i64 len, .int .u32 m] 24)).cell? ⟨W.heap.size, 0, none⟩ = some (.int .i64 k) := B2.cell 0 _ rfl
      have c1 : (w2.alloc (.cells #[.int .i64 k, .int .i64 len, .int .u32 m] 24)).cell? ⟨W.heap.size, 1, none⟩ = some (.int .i64 len) := B2.cell 1 _ rfl
      have c2 : (w2.alloc (.cells #[.int .i64 k, .int .i64 len, .int .u32 m] 24)).cell? ⟨W.heap.size, 2, none⟩ = some (.int .u32 m) := B2.cell 2 _ rfl
      go_wp2_with fail
      refine (decode_any x _).mono ?_
      rw [HD.out]
      rintro e w3 ⟨rfl, hb3⟩
      have E0 := Blk.new w3 #[.int .i64 0, .int .i64 0, .int .u32 0] 24
      go_wp2_with fail
      refine (hawake_any _).mono ?_
      rintro e w5 ⟨rfl, hb5⟩
      have E1 := E0.below hb5
      have e0 : w5.cell? ⟨w3.heap.size, 0, none⟩ = some (.int .i64 0) := E1.cell 0 _ rfl
      have e1 : w5.cell? ⟨w3.heap.size, 1, none⟩ = some (.int .i64 0) := E1.cell 1 _ rfl
      have e2 : w5.cell? ⟨w3.heap.size, 2, none⟩ = some (.int .u32 0) := E1.cell 2 _ rfl
      go_wp2_with fail
      go_ret
      exact ⟨rfl, by repeat (first | exact Below.refl _ _ | assumption | refine keep_alloc ?_ _ | refine keep_below (by assumption) ?_)⟩
    · have her' : (er == 0) = false := by simp [her]
      clear hde her
      go_enter Try.func6, Try.ntmps6
      go_wp2_with fail
      refine (encode_any k len m _ M0.out M1.out).mono ?_
      rw [HE.out]
      rintro e w1 ⟨rfl, hb1⟩
      unfold retW
      go_wp2_with fail
      refine (decode_any x _).mono ?_
      rw [HD.out]
      rintro e w3 ⟨rfl, hb3⟩
      have E0 := Blk.new w3 #[.int .i64 0, .int .i64 0, .int .u32 0] 24
      go_wp2_with fail
      refine (hawake_any _).mono ?_
      rintro e w5 ⟨rfl, hb5⟩
      have E1 := E0.below hb5
      have e0 : w5.cell? ⟨w3.heap.size, 0, none⟩ = some (.int .i64 0) := E1.cell 0 _ rfl
      have e1 : w5.cell? ⟨w3.heap.size, 1, none⟩ = some (.int .i64 0) := E1.cell 1 _ rfl
      have e2 : w5.cell? ⟨w3.heap.size, 2, none⟩ = some (.int .u32 0) := E1.cell 2 _ rfl
      go_wp2_with fail
      go_ret
      exact ⟨rfl, by repeat (first | exact Below.refl _ _ | assumption | refine keep_alloc ?_ _ | refine keep_below (by assumption) ?_)⟩
end Go.Proofs.Ytcnlfokgofmnkaa

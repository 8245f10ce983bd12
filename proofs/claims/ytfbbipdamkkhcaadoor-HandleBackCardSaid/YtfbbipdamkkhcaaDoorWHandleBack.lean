/- The walk of HandleBack. -/
import Derived.Test.YtfbbipdamkkhcaaDoorHandle4
namespace Go.Proofs.YtfbbipdamkkhcaaDoor
open Go.ChangeShapes Go.WideShapes Go.RowKit Words

theorem dec_of_enc (t i s : Int) (h : (encD t i s).2 = 0) : retD (encD t i s).1 = retH t i s 0 := by
  unfold encD at h ⊢
  split
  · rename_i hv
    obtain ⟨ht, hi, hs⟩ := validD_range hv
    have hu := U_ofInt (t + 4 * i + 262144 * s) (by omega) (by omega)
    have e1 : decT (BitVec.ofInt 64 (t + 4 * i + 262144 * s)) = t := by unfold decT; rw [hu]; omega
    have e2 : decI (BitVec.ofInt 64 (t + 4 * i + 262144 * s)) = i := by unfold decI; rw [hu]; omega
    have e3 : decS (BitVec.ofInt 64 (t + 4 * i + 262144 * s)) = s := by unfold decS; rw [hu]; omega
    have e5 : t + 4 * i + 262144 * s < 1125899906842624 := by omega
    have e6 : ¬ t + 4 * i + 262144 * s = 0 := by omega
    unfold retD decOk
    simp only [e1, e2, e3, hu, hv]
    rw [if_neg e6, if_pos (by rw [decide_eq_true e5]; rfl)]
  · rename_i hv
    rw [if_neg hv] at h
    cases h

/-- the second half: a word that is decoded is the one of its handle -/
theorem back2 (x : BitVec 64) : (∃ t i s : Int, retD x = retH t i s 0 ∧ encD t i s = (x, 0) ∧ In64 i ∧ In64 s) ∨ ∃ e : Int, (e != 0) = true ∧ retD x = retH 0 0 0 e := by
  by_cases h0 : U x = 0
  · exact Or.inr ⟨5, rfl, by unfold retD; rw [if_pos h0]⟩
  by_cases hd : decOk x = true
  · have he := rdec_enc x hd
    have hs := decS_eq x hd
    obtain ⟨-, ⟨i0, i1⟩, s0, s1⟩ := dec_range x
    refine Or.inl ⟨decT x, decI x, decS x, ?_, by rw [hs]; exact he, ⟨by omega, by omega⟩, ⟨by omega, by omega⟩⟩
    unfold retD; rw [if_neg h0, if_pos hd]
  · exact Or.inr ⟨6, rfl, by unfold retD; rw [if_neg h0, if_neg hd]⟩

set_option maxHeartbeats 1000000 in
theorem walkHandleBack {H : Type} {enc : TypeId × Value → H} (W : World) (base : Nat) (hT : Tab W) {v0 v1 : Value} {d0 d1 : DataW H} {p0 p1 : List MemPlace}
    (o0 : Value.okWide Tryd.prog W .any base 23 v0) (h0 : DataW.Trod enc Tryd.prog W 0 (fun _ => true) true 23 v0 d0 p0)
    (o1 : Value.okWide Tryd.prog W .any base 24 v1) (h1 : DataW.Trod enc Tryd.prog W 0 (fun _ => true) true 24 v1 d1 p1) :
    Calls Tryd.prog 5 #[v0, v1] W fun e w' => e = .returned (.bool true) ∧ Below W.heap.size W w' := by
  obtain ⟨k, len, m, rfl, _, hm0, hm1⟩ := open_hand o0 h0
  obtain ⟨x, rfl⟩ := open_word Tryd.underlying24 o1 h1
  clear h0 o0 h1 o1
  have hde := dec_of_enc k len m
  obtain ⟨y, er, hf⟩ : ∃ y er, encD k len m = (y, er) := by
    rcases encD k len m with ⟨z, er⟩
    exact ⟨z, er, rfl⟩
  rw [hf] at hde
  have HE := Lib.hid hf
  have M0 := Lib.hid hm0
  have M1 := Lib.hid hm1
  clear hf hm0 hm1
  rcases back2 x with ⟨k', len', m', hd, he2, m0', m1'⟩ | ⟨ed, hed, hd⟩
  · have HD := Lib.hid hd
    have HE2 := Lib.hid he2
    have N0 := Lib.hid m0'
    have N1 := Lib.hid m1'
    clear hd he2 m0' m1'
    by_cases her : er = 0
    · have HDE := Lib.hid (hde her)
      subst her
      clear hde
      go_enter Tryd.func5, Tryd.ntmps5
      go_wp2_with fail
      have B0 := Blk.new W #[.int .i64 k, .int .i64 len, .int .i64 m] 23
      refine (encode_any k len m _ (hT.alloc _) M0.out.1 M0.out.2 M1.out.1 M1.out.2).mono ?_
      rw [HE.out]
      rintro e w1 ⟨rfl, hb1⟩
      have T1 := (hT.alloc (.cells #[.int .i64 k, .int .i64 len, .int .i64 m] 23)).below hb1
      unfold retW
      have B1 := B0.below hb1
      clear B0
      go_wp2_with fail
      refine (decode_any y _ T1).mono ?_
      rw [HDE.out]
      rintro e w2 ⟨rfl, hb2⟩
      unfold retH
      have T1 := (T1.below hb2).alloc (.cells #[.int .i64 k, .int .i64 len, .int .i64 m] 23)
      have B2 := (B1.below hb2).alloc (.cells #[.int .i64 k, .int .i64 len, .int .i64 m] 23)
      clear B1
      have c0 : (w2.alloc (.cells #[.int .i64 k, .int .i64 len, .int .i64 m] 23)).cell? ⟨W.heap.size, 0, none⟩ = some (.int .i64 k) := B2.cell 0 _ rfl
      have c1 : (w2.alloc (.cells #[.int .i64 k, .int .i64 len, .int .i64 m] 23)).cell? ⟨W.heap.size, 1, none⟩ = some (.int .i64 len) := B2.cell 1 _ rfl
      have c2 : (w2.alloc (.cells #[.int .i64 k, .int .i64 len, .int .i64 m] 23)).cell? ⟨W.heap.size, 2, none⟩ = some (.int .i64 m) := B2.cell 2 _ rfl
      go_wp2_with fail
      refine (decode_any x _ T1).mono ?_
      rw [HD.out]
      rintro e w3 ⟨rfl, hb3⟩
      unfold retH
      have T4 := Tab.alloc (T1.below hb3) (.cells #[.int .i64 k', .int .i64 len', .int .i64 m'] 23)
      go_wp2_with fail
      refine (encode_any k' len' m' _ T4 N0.out.1 N0.out.2 N1.out.1 N1.out.2).mono ?_
      rw [HE2.out]
      rintro e w4 ⟨rfl, hb4⟩
      have T5 := T4.below hb4
      unfold retW
      go_wp2_with fail
      refine (hawake_any _ T5).mono ?_
      rintro e w5 ⟨rfl, hb5⟩
      go_wp2_with fail
      go_ret
      exact ⟨rfl, by repeat (first | exact Below.refl _ _ | assumption | refine keep_alloc ?_ _ | refine keep_below (by assumption) ?_)⟩
    · have her' : (er == 0) = false := by simp [her]
      clear hde her
      go_enter Tryd.func5, Tryd.ntmps5
      go_wp2_with fail
      refine (encode_any k len m _ (hT.alloc _) M0.out.1 M0.out.2 M1.out.1 M1.out.2).mono ?_
      rw [HE.out]
      rintro e w1 ⟨rfl, hb1⟩
      have T1 := (hT.alloc (.cells #[.int .i64 k, .int .i64 len, .int .i64 m] 23)).below hb1
      unfold retW
      go_wp2_with fail
      refine (decode_any x _ T1).mono ?_
      rw [HD.out]
      rintro e w3 ⟨rfl, hb3⟩
      unfold retH
      have T4 := Tab.alloc (T1.below hb3) (.cells #[.int .i64 k', .int .i64 len', .int .i64 m'] 23)
      go_wp2_with fail
      refine (encode_any k' len' m' _ T4 N0.out.1 N0.out.2 N1.out.1 N1.out.2).mono ?_
      rw [HE2.out]
      rintro e w4 ⟨rfl, hb4⟩
      have T5 := T4.below hb4
      unfold retW
      go_wp2_with fail
      refine (hawake_any _ T5).mono ?_
      rintro e w5 ⟨rfl, hb5⟩
      go_wp2_with fail
      go_ret
      exact ⟨rfl, by repeat (first | exact Below.refl _ _ | assumption | refine keep_alloc ?_ _ | refine keep_below (by assumption) ?_)⟩
  · have HD := Lib.hid hd
    clear hd
    by_cases her : er = 0
    · have HDE := Lib.hid (hde her)
      subst her
      clear hde
      go_enter Tryd.func5, Tryd.ntmps5
      go_wp2_with fail
      have B0 := Blk.new W #[.int .i64 k, .int .i64 len, .int .i64 m] 23
      refine (encode_any k len m _ (hT.alloc _) M0.out.1 M0.out.2 M1.out.1 M1.out.2).mono ?_
      rw [HE.out]
      rintro e w1 ⟨rfl, hb1⟩
      have T1 := (hT.alloc (.cells #[.int .i64 k, .int .i64 len, .int .i64 m] 23)).below hb1
      unfold retW
      have B1 := B0.below hb1
      clear B0
      go_wp2_with fail
      refine (decode_any y _ T1).mono ?_
      rw [HDE.out]
      rintro e w2 ⟨rfl, hb2⟩
      unfold retH
      have T1 := (T1.below hb2).alloc (.cells #[.int .i64 k, .int .i64 len, .int .i64 m] 23)
      have B2 := (B1.below hb2).alloc (.cells #[.int .i64 k, .int .i64 len, .int .i64 m] 23)
      clear B1
      have c0 : (w2.alloc (.cells #[.int .i64 k, .int .i64 len, .int .i64 m] 23)).cell? ⟨W.heap.size, 0, none⟩ = some (.int .i64 k) := B2.cell 0 _ rfl
      have c1 : (w2.alloc (.cells #[.int .i64 k, .int .i64 len, .int .i64 m] 23)).cell? ⟨W.heap.size, 1, none⟩ = some (.int .i64 len) := B2.cell 1 _ rfl
      have c2 : (w2.alloc (.cells #[.int .i64 k, .int .i64 len, .int .i64 m] 23)).cell? ⟨W.heap.size, 2, none⟩ = some (.int .i64 m) := B2.cell 2 _ rfl
      go_wp2_with fail
      refine (decode_any x _ T1).mono ?_
      rw [HD.out]
      rintro e w3 ⟨rfl, hb3⟩
      unfold retH
      have T4 := Tab.alloc (T1.below hb3) (.cells #[.int .i64 0, .int .i64 0, .int .i64 0] 23)
      have E0 := Blk.new w3 #[.int .i64 0, .int .i64 0, .int .i64 0] 23
      go_wp2_with fail
      refine (hawake_any _ T4).mono ?_
      rintro e w5 ⟨rfl, hb5⟩
      have E1 := E0.below hb5
      have e0 : w5.cell? ⟨w3.heap.size, 0, none⟩ = some (.int .i64 0) := E1.cell 0 _ rfl
      have e1 : w5.cell? ⟨w3.heap.size, 1, none⟩ = some (.int .i64 0) := E1.cell 1 _ rfl
      have e2 : w5.cell? ⟨w3.heap.size, 2, none⟩ = some (.int .i64 0) := E1.cell 2 _ rfl
      go_wp2_with fail
      go_ret
      exact ⟨rfl, by repeat (first | exact Below.refl _ _ | assumption | refine keep_alloc ?_ _ | refine keep_below (by assumption) ?_)⟩
    · have her' : (er == 0) = false := by simp [her]
      clear hde her
      go_enter Tryd.func5, Tryd.ntmps5
      go_wp2_with fail
      refine (encode_any k len m _ (hT.alloc _) M0.out.1 M0.out.2 M1.out.1 M1.out.2).mono ?_
      rw [HE.out]
      rintro e w1 ⟨rfl, hb1⟩
      have T1 := (hT.alloc (.cells #[.int .i64 k, .int .i64 len, .int .i64 m] 23)).below hb1
      unfold retW
      go_wp2_with fail
      refine (decode_any x _ T1).mono ?_
      rw [HD.out]
      rintro e w3 ⟨rfl, hb3⟩
      unfold retH
      have T4 := Tab.alloc (T1.below hb3) (.cells #[.int .i64 0, .int .i64 0, .int .i64 0] 23)
      have E0 := Blk.new w3 #[.int .i64 0, .int .i64 0, .int .i64 0] 23
      go_wp2_with fail
      refine (hawake_any _ T4).mono ?_
      rintro e w5 ⟨rfl, hb5⟩
      have E1 := E0.below hb5
      have e0 : w5.cell? ⟨w3.heap.size, 0, none⟩ = some (.int .i64 0) := E1.cell 0 _ rfl
      have e1 : w5.cell? ⟨w3.heap.size, 1, none⟩ = some (.int .i64 0) := E1.cell 1 _ rfl
      have e2 : w5.cell? ⟨w3.heap.size, 2, none⟩ = some (.int .i64 0) := E1.cell 2 _ rfl
      go_wp2_with fail
      go_ret
      exact ⟨rfl, by repeat (first | exact Below.refl _ _ | assumption | refine keep_alloc ?_ _ | refine keep_below (by assumption) ?_)⟩
end Go.Proofs.YtfbbipdamkkhcaaDoor

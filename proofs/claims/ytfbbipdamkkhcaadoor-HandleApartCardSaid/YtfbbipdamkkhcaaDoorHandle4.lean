/- The contract of the reference of Decode; the sanity check of the laws on handles; handles that come in. -/
import Derived.Test.YtfbbipdamkkhcaaDoorHandle3
import Derived.Test.YtfbbipdamkkhcaaDoorOpen
namespace Go.Proofs.YtfbbipdamkkhcaaDoor
open Go.ChangeShapes Go.WideShapes Go.RowKit Words

theorem rdec_ok (x : BitVec 64) : validD (decT x) (decI x) (U x / 262144) = decOk x := by
  have hr := U_range x
  unfold decOk
  by_cases h : U x < 1125899906842624
  · have hs : decS x = U x / 262144 := by unfold decS; omega
    rw [hs, decide_eq_true h, Bool.true_and]
  · rw [decide_eq_false h, Bool.false_and]
    have : ¬ U x / 262144 ≤ 4294967295 := by omega
    simp [validD, this]
theorem rdec_enc (x : BitVec 64) (h : decOk x = true) : encD (decT x) (decI x) (U x / 262144) = (x, 0) := by
  rw [← rdec_ok] at h
  unfold encD
  rw [if_pos h]
  have hr := U_range x
  refine Prod.ext ?_ rfl
  apply U_inj
  have h1 : decT x + 4 * decI x + 262144 * (U x / 262144) = U x := by unfold decT decI; omega
  show U (BitVec.ofInt 64 (decT x + 4 * decI x + 262144 * (U x / 262144))) = U x
  rw [h1, U_ofInt _ (by omega) (by omega)]
theorem decS_eq (x : BitVec 64) (h : decOk x = true) : decS x = U x / 262144 := by
  simp only [decOk, Bool.and_eq_true, decide_eq_true_eq] at h
  have := U_range x
  unfold decS
  omega

attribute [local go_sem ↓] Words.wrap_U Words.bits_and_3 Words.bits_and_65535 Words.shr_any

theorem rdecode_any (x : BitVec 64) (w : World) :
    Calls Tryd.prog 13 #[.int .u64 (U x)] w fun e w' => e = retD x ∧ Below w.heap.size w w' := by
  have hr := U_range x
  have hi : U (x >>> 2) % 65536 = decI x := by rw [U_shr]; rfl
  have hs : U (x >>> 18) = U x / 262144 := by rw [U_shr]; rfl
  have ht : U x % 4 = decT x := rfl
  obtain ⟨⟨t0, t1⟩, ⟨i0, i1⟩, -, -⟩ := dec_range x
  by_cases hx0 : U x = 0
  · have HD := Lib.hid (show retD x = retH 0 0 0 5 by unfold retD; rw [if_pos hx0])
    have hz : (U x == 0) = true := by rw [hx0]; rfl
    clear hx0 hi hs ht hr t0 t1 i0 i1
    go_enter Tryd.func13, Tryd.ntmps13
    go_wp2_with fail
    have hE := zd3 (Blk.new w #[.int .i64 0, .int .i64 0, .int .i64 0] 23)
    obtain ⟨q0, q1, q2, -⟩ := hE
    refine bodyPost_ret (v := .tuple #[handV 0 0 0, .int .i64 5]) (by simp [results, Tryd.results13, go_sem, q0, q1, q2]) rfl ?_
    exact ⟨HD.out.symm, keep_alloc (Below.refl _ _) _⟩
  have hz : (U x == 0) = false := by simp [hx0]
  obtain ⟨S, hS⟩ : ∃ S, S = U x / 262144 := ⟨_, rfl⟩
  have wt : IntKind.i64.wrap (decT x) = decT x := IntWalk.i64_in _ (by omega)
  have wi : IntKind.i64.wrap (decI x) = decI x := IntWalk.i64_in _ (by omega)
  have ws : IntKind.i64.wrap S = S := IntWalk.i64_in _ (by omega)
  rw [← hS] at hs
  by_cases hd : decOk x = true
  · have he := rdec_enc x hd
    have hds := decS_eq x hd
    rw [← hS] at he hds
    have HR := Lib.hid (show retD x = retH (decT x) (decI x) S 0 by unfold retD; rw [if_neg hx0, if_pos hd, hds])
    have HE := Lib.hid he
    clear he hd hds hS hx0 t0 t1 i0 i1 hr
    go_enter Tryd.func13, Tryd.ntmps13
    go_wp2_with fail
    refine (rencode_any _ _ _ _).mono ?_
    rw [HE.out]
    rintro e w2 ⟨rfl, hb2⟩
    unfold retW
    obtain ⟨g0, g1, g2, gf⟩ := zd3 (((Blk.new w _ _).alloc _).below hb2)
    have hE := (Blk.newAt (w.alloc (.cells #[.int .i64 0, .int .i64 0, .int .i64 0] 23)) #[.int .i64 (decT x), .int .i64 (decI x), .int .i64 S] 23 (w.heap.size + 1) (by simp)).below hb2
    have e0 : w2.cell? ⟨w.heap.size + 1, 0, none⟩ = some (.int .i64 (decT x)) := hE.cell 0 _ rfl
    have e1 : w2.cell? ⟨w.heap.size + 1, 1, none⟩ = some (.int .i64 (decI x)) := hE.cell 1 _ rfl
    have e2 : w2.cell? ⟨w.heap.size + 1, 2, none⟩ = some (.int .i64 S) := hE.cell 2 _ rfl
    have hB2 : Below w.heap.size w w2 := (((Below.refl _ _).alloc (Nat.le_refl _) _).alloc (by simp) _).trans (hb2.mono (by simp; omega))
    clear hE hb2 hi hs ht wt wi ws
    go_wp2_with fail
    refine bodyPost_ret (v := .tuple #[handV (decT x) (decI x) S, .int .i64 0]) (by simp [results, Tryd.results13, go_sem, g0, g1, g2]) rfl ?_
    exact ⟨HR.out.symm, hB2.setCell (by simp) _ |>.setCell (by simp) _ |>.setCell (by simp) _⟩
  · have HR := Lib.hid (show retD x = retH 0 0 0 6 by unfold retD; rw [if_neg hx0, if_neg hd])
    have HE := Lib.hid (show encD (decT x) (decI x) S = (0#64, 1) by unfold encD; rw [hS, rdec_ok, if_neg hd])
    clear hd hS hx0 t0 t1 i0 i1 hr
    go_enter Tryd.func13, Tryd.ntmps13
    go_wp2_with fail
    refine (rencode_any _ _ _ _).mono ?_
    rw [HE.out]
    rintro e w2 ⟨rfl, hb2⟩
    unfold retW
    obtain ⟨g0, g1, g2, gf⟩ := zd3 (((Blk.new w _ _).alloc _).below hb2)
    have hB2 : Below w.heap.size w w2 := (((Below.refl _ _).alloc (Nat.le_refl _) _).alloc (by simp) _).trans (hb2.mono (by simp; omega))
    clear hb2 hi hs ht wt wi ws
    go_wp2_with fail
    refine bodyPost_ret (v := .tuple #[handV 0 0 0, .int .i64 6]) (by simp [results, Tryd.results13, go_sem, g0, g1, g2]) rfl ?_
    exact ⟨HR.out.symm, hB2.setCell (by simp) _ |>.setCell (by simp) _ |>.setCell (by simp) _⟩

theorem hawake_any (w : World) (hT : Tab w) : Calls Tryd.prog 9 #[] w fun e w' => e = .returned (.bool true) ∧ Below w.heap.size w w' := by
  have hp : encD 1 0 1 = (262145#64, 0) := by decide
  have HP := Lib.hid hp
  clear hp
  go_enter Tryd.func9, Tryd.ntmps9
  go_wp2_with fail
  refine (encode_any _ _ _ _ hT (by omega) (by omega) (by omega) (by omega)).mono ?_
  rintro e w' ⟨rfl, hb⟩
  rw [HP.out]
  unfold retW
  have hu : (U 262145#64 == 262145) = true := rfl
  go_wp2_with fail
  go_ret
  exact ⟨rfl, hb⟩

def In64 (n : Int) : Prop := -9223372036854775808 ≤ n ∧ n ≤ 9223372036854775807
theorem cells_hand {H : Type} {enc : TypeId × Value → H} {w : World} {base n : Nat} {spare : Nat → Bool} {held : Bool} {cs : List Value} {y : DataW H × List MemPlace}
    (h : DataW.trod enc Tryd.prog w base spare held n 23 cs = some y) : ∃ t i s : Int, cs = [.int .i64 t, .int .i64 i, .int .i64 s] ∧ In64 t ∧ In64 i ∧ In64 s := by
  obtain ⟨hl, hf⟩ := cells_struct Tryd.underlying23 (by kernel_rfl) (by kernel_rfl) h
  obtain ⟨v0, m0, z0, e0, t0⟩ := hf 0 _ rfl
  obtain ⟨v1, m1, z1, e1, t1⟩ := hf 1 _ rfl
  obtain ⟨v2, m2, z2, e2, t2⟩ := hf 2 _ rfl
  obtain ⟨a, ha, hra⟩ := cells_i64 Tryd.underlying3 t0
  obtain ⟨b, hb, hrb⟩ := cells_i64 Tryd.underlying3 t1
  obtain ⟨c, hc, hrc⟩ := cells_i64 Tryd.underlying3 t2
  simp only [List.cons.injEq, and_true] at ha hb hc
  subst ha hb hc
  exact ⟨a, b, c, list3 hl e0 e1 e2, hra, hrb, hrc⟩
theorem open_hand {H : Type} {enc : TypeId × Value → H} {w : World} {base b : Nat} {spare : Nat → Bool} {held : Bool} {v : Value} {d : DataW H} {ps : List MemPlace}
    (hv : Value.okWide Tryd.prog w .any b 23 v) (h : DataW.Trod enc Tryd.prog w base spare held 23 v d ps) :
    ∃ t i s : Int, v = handV t i s ∧ In64 t ∧ In64 i ∧ In64 s := by
  obtain ⟨cs, rfl, _⟩ := okWide_struct Tryd.underlying23 hv
  obtain ⟨fuel, hf⟩ := h
  obtain ⟨t, i, s, he, h1, h2, h3⟩ := cells_hand hf
  refine ⟨t, i, s, ?_, h1, h2, h3⟩
  simp only [Value.cells] at he
  rw [← Array.toArray_toList (xs := cs), he]
end Go.Proofs.YtfbbipdamkkhcaaDoor

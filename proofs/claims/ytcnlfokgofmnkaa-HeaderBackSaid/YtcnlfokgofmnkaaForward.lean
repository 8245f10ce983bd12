/- The contracts of header's Forward and Target, and of the references' Decode, Forward and Target. -/
import Derived.Test.YtcnlfokgofmnkaaDecode
namespace Go.Proofs.Ytcnlfokgofmnkaa
open Go.RowKit Words

theorem dec_enc (x : BitVec 64) : decOk x = true ↔ (encH (decK x) (decL x) (decM x)).2 = 0 ∧ (encH (decK x) (decL x) (decM x)).1 = x := by
  obtain ⟨k0, k1, l0, l1, m0, m1⟩ := dec_range x
  have hx := U_range x
  constructor
  · intro h
    simp only [decOk, Bool.and_eq_true, decide_eq_true_eq] at h
    unfold encH
    rw [if_pos h.2]
    refine ⟨rfl, U_inj ?_⟩
    rw [U_ofInt _ (by omega) (by omega)]
    unfold decK decL decM
    omega
  · rintro ⟨h1, h2⟩
    unfold encH at h1 h2
    split at h1
    · rename_i hv
      rw [if_pos hv] at h2
      simp only at h2
      have hl : decL x ≤ 255 := by
        simp only [validH, Bool.and_eq_true, decide_eq_true_eq] at hv
        exact hv.1.2
      have := congrArg U h2
      rw [U_ofInt _ (by omega) (by omega)] at this
      simp only [decOk, Bool.and_eq_true, decide_eq_true_eq]
      refine ⟨⟨?_, ?_⟩, hv⟩
      · omega
      · omega
    · cases h1

attribute [local go_sem ↓] Words.wrap_U Words.bits_and_3 Words.bits_and_4095 Words.shr_any

set_option maxRecDepth 100000 in
theorem rdecode_any (x : BitVec 64) (w : World) :
    Calls Try.prog 22 #[.int .u64 (U x)] w fun e w' => e = retD x ∧ Below w.heap.size w w' := by
  obtain ⟨k0, k1, l0, l1, m0, m1⟩ := dec_range x
  have hde := dec_enc x
  have hk : U (x >>> 2) % 4 = decK x := by rw [U_shr]; rfl
  have hl : U (x >>> 4) % 4096 = decL x := by rw [U_shr]; rfl
  have hm : IntKind.u32.wrap (U (x >>> 16)) = decM x := by rw [IntKind.wrap_u32, U_shr]; rfl
  by_cases hd : decOk x = true
  · have he : encH (decK x) (decL x) (decM x) = (x, 0) := Prod.ext (hde.1 hd).2 (hde.1 hd).1
    have hr : retD x = .returned (.tuple #[headV (decK x) (decL x) (decM x), .bool true]) := by unfold retD; rw [if_pos hd]
    have HE := Lib.hid he
    have HR := Lib.hid hr
    clear hde hd he hr
    go_enter Try.func22, Try.ntmps22
    go_wp2_with fail
    refine (rencode_any _ _ _ _ m0 m1).mono ?_
    rw [HE.out]
    rintro e w2 ⟨rfl, hb2⟩
    unfold retW
    obtain ⟨g0, g1, g2, gf⟩ := zh3 (((Blk.new w _ _).alloc _).below hb2)
    have hE := (Blk.newAt (w.alloc (.cells #[.int .i64 0, .int .i64 0, .int .u32 0] 24)) #[.int .i64 (decK x), .int .i64 (decL x), .int .u32 (decM x)] 24 (w.heap.size + 1) (by simp)).below hb2
    have e0 : w2.cell? ⟨w.heap.size + 1, 0, none⟩ = some (.int .i64 (decK x)) := hE.cell 0 _ rfl
    have e1 : w2.cell? ⟨w.heap.size + 1, 1, none⟩ = some (.int .i64 (decL x)) := hE.cell 1 _ rfl
    have e2 : w2.cell? ⟨w.heap.size + 1, 2, none⟩ = some (.int .u32 (decM x)) := hE.cell 2 _ rfl
    have hB2 : Below w.heap.size w w2 := (((Below.refl _ _).alloc (Nat.le_refl _) _).alloc (by simp) _).trans (hb2.mono (by simp; omega))
    clear hE hb2 hk hl hm
    go_wp2_with fail
    refine bodyPost_ret (v := .tuple #[headV (decK x) (decL x) (decM x), .bool true]) (by simp [results, Try.results22, go_sem, g0, g1, g2]) rfl ?_
    exact ⟨HR.out.symm, hB2.setCell (by simp) _ |>.setCell (by simp) _ |>.setCell (by simp) _⟩
  · have hr : retD x = .returned (.tuple #[headV 0 0 0, .bool false]) := by unfold retD; rw [if_neg hd]
    have HR := Lib.hid hr
    have h12 : ¬ ((encH (decK x) (decL x) (decM x)).2 = 0 ∧ (encH (decK x) (decL x) (decM x)).1 = x) := fun h => hd (hde.2 h)
    clear hde hd hr
    obtain ⟨y, er, hen⟩ : ∃ y er, encH (decK x) (decL x) (decM x) = (y, er) := ⟨_, _, rfl⟩
    rw [hen] at h12
    have HE := Lib.hid hen
    clear hen
    have fin : ∀ w2 : World, Below ((w.alloc (.cells #[.int .i64 0, .int .i64 0, .int .u32 0] 24)).alloc (.cells #[.int .i64 (decK x), .int .i64 (decL x), .int .u32 (decM x)] 24)).heap.size ((w.alloc (.cells #[.int .i64 0, .int .i64 0, .int .u32 0] 24)).alloc (.cells #[.int .i64 (decK x), .int .i64 (decL x), .int .u32 (decM x)] 24)) w2 →
        Blk w2 w.heap.size 24 ZH ∧ Below w.heap.size w w2 := fun w2 hb2 =>
      ⟨((Blk.new w _ _).alloc _).below hb2, (((Below.refl _ _).alloc (Nat.le_refl _) _).alloc (by simp) _).trans (hb2.mono (by simp; omega))⟩
    by_cases her : er = 0
    · have hy : (U y != U x) = true := by
        rw [U_ne]
        have : ¬ y = x := fun h => h12 ⟨her, h⟩
        simp [this]
      subst her
      clear h12
      go_enter Try.func22, Try.ntmps22
      go_wp2_with fail
      refine (rencode_any _ _ _ _ m0 m1).mono ?_
      rw [HE.out]
      rintro e w2 ⟨rfl, hb2⟩
      unfold retW
      obtain ⟨hR, hB2⟩ := fin w2 hb2
      obtain ⟨g0, g1, g2, gf⟩ := zh3 hR
      clear hb2 hk hl hm fin
      go_wp2_with fail
      refine bodyPost_ret (v := .tuple #[headV 0 0 0, .bool false]) (by simp [results, Try.results22, go_sem, g0, g1, g2]) rfl ?_
      exact ⟨HR.out.symm, hB2.setCell (by simp) _ |>.setCell (by simp) _ |>.setCell (by simp) _⟩
    · have hy : (er != 0) = true := by simp [her]
      clear h12 her
      go_enter Try.func22, Try.ntmps22
      go_wp2_with fail
      refine (rencode_any _ _ _ _ m0 m1).mono ?_
      rw [HE.out]
      rintro e w2 ⟨rfl, hb2⟩
      unfold retW
      obtain ⟨hR, hB2⟩ := fin w2 hb2
      obtain ⟨g0, g1, g2, gf⟩ := zh3 hR
      clear hb2 hk hl hm fin
      go_wp2_with fail
      refine bodyPost_ret (v := .tuple #[headV 0 0 0, .bool false]) (by simp [results, Try.results22, go_sem, g0, g1, g2]) rfl ?_
      exact ⟨HR.out.symm, hB2.setCell (by simp) _ |>.setCell (by simp) _ |>.setCell (by simp) _⟩

/-! ### Forward, Target -/
def fwd (a : BitVec 64) : BitVec 64 × Int := if U a < 4294967296 then (BitVec.ofInt 64 (4 * U a + 2), 0) else (0#64, 1)
def tgtOk (x : BitVec 64) : Bool := decide (U x % 4 = 2) && decide (U x < 17179869184)
def retT (x : BitVec 64) : Ending := if tgtOk x = true then .returned (.tuple #[.int .u64 (U (x >>> 2)), .bool true]) else .returned (.tuple #[.int .u64 0, .bool false])

theorem pack_fwd (a : BitVec 64) (h : U a < 4294967296) : pack [(2, 2#64), (32, a)] = (BitVec.ofInt 64 (4 * U a + 2), 0) := by
  have h0 := U_nonneg a
  have u1 : U 2#64 = 2 := rfl
  have f1 : (2#64 &&& ~~~ones (2 : Int).toNat == 0#64) = true := by decide
  have f2 : (a &&& ~~~ones (32 : Int).toNat == 0#64) = true := by rw [fits_lt _ _ (by decide)]; simpa using h
  have hw : wOk [(2, 2#64), (32, a)] 64 = true := by simp [wOk]
  have e1 : (0#64 ||| 2#64 <<< (0 : Int).toNat) = 2#64 := by decide
  have e2 := U_or_shl 2#64 a 2 (by rw [u1]; decide) (by omega)
  rw [u1] at e2
  have hv : 2#64 ||| a <<< 2 = BitVec.ofInt 64 (4 * U a + 2) := by
    apply U_inj
    rw [e2, U_ofInt _ (by omega) (by omega)]
    omega
  unfold pack
  rw [if_pos hw]
  simp only [packGo, f1, f2, if_true, e1]
  rw [show (0 + 2 : Int).toNat = 2 from rfl, hv]
  rfl
theorem unpack_tgt (x : BitVec 64) : unpack x [2, 32] = if U x < 17179869184 then ([x &&& ones 2, x >>> 2], 0) else ([], 2) := by
  have h1 : unOk [2, 32] 64 = true := by decide
  have e2 : x >>> 2 >>> 32 = x >>> 34 := by rw [← BitVec.shiftRight_add]
  have hz : (x >>> 34 == 0#64) = decide (U x < 17179869184) := by
    rw [← zero_iff, fits_lt _ _ (by decide)]
    rfl
  unfold unpack
  rw [if_pos h1]
  simp only [unGo, show (2 : Int).toNat = 2 from rfl, show (32 : Int).toNat = 32 from rfl, e2, hz, decide_eq_true_eq]
  split
  · rename_i h
    have : (x >>> 2) &&& ones 32 = x >>> 2 := by
      have := U_nonneg x
      apply U_inj
      rw [U_and_ones _ _ (by decide), U_shr]
      omega
    rw [this]
  · rfl

set_option maxRecDepth 100000 in
theorem forward_any (a : BitVec 64) (w : World) :
    Calls Try.prog 23 #[.int .u64 (U a)] w fun e w' => e = retW (fwd a) ∧ Below w.heap.size w w' := by
  have hu := U_ones 32 (by omega)
  by_cases h : U a < 4294967296
  · have hf : fwd a = (BitVec.ofInt 64 (4 * U a + 2), 0) := by unfold fwd; rw [if_pos h]
    have HP := Lib.hid (pack_fwd a h)
    have t : decide (U (ones 32) < U a) = false := by simp; omega
    have HF := Lib.hid hf
    clear hu hf h
    have hr := Reads.freshAs w #[.int .i64 2, .int .u64 2, .int .i64 32, .int .u64 (U a)] 46 2 2 (([(2, 2#64), (32, a)] : List (Int × BitVec 64)).flatMap fieldCells) rfl rfl (by decide)
    go_enter Try.func23, Try.ntmps23
    go_wp2_with (go_at_call 28; refine (ones_any _ _).mono ?_; rintro e w' ⟨rfl, rfl⟩)
    refine (pack_any _ _ _ _ _ hr).mono ?_
    rw [HP.out]
    rintro e w2 ⟨rfl, hb2⟩
    unfold retW
    go_wp2_with fail
    go_ret2
    exact ⟨by rw [HF.out]; rfl, ((Below.refl _ _).alloc (Nat.le_refl _) _).trans (hb2.mono (by simp))⟩
  · have hf : fwd a = (0#64, 1) := by unfold fwd; rw [if_neg h]
    have t : decide (U (ones 32) < U a) = true := by simp; omega
    have HF := Lib.hid hf
    clear hu hf h
    go_enter Try.func23, Try.ntmps23
    go_wp2_with (go_at_call 28; refine (ones_any _ _).mono ?_; rintro e w' ⟨rfl, rfl⟩)
    go_ret2
    exact ⟨by rw [HF.out]; rfl, Below.refl _ _⟩
set_option maxRecDepth 100000 in
theorem rforward_any (a : BitVec 64) (w : World) :
    Calls Try.prog 24 #[.int .u64 (U a)] w fun e w' => e = retW (fwd a) ∧ w = w' := by
  have h0 := U_nonneg a
  by_cases h : U a < 4294967296
  · have hf : fwd a = (BitVec.ofInt 64 (4 * U a + 2), 0) := by unfold fwd; rw [if_pos h]
    have hU := Lib.hid (U_ofInt (4 * U a + 2) (by omega) (by omega))
    have HF := Lib.hid hf
    have t : decide (4294967296 ≤ U a) = false := by simp; omega
    have t1 : IntKind.u64.wrap (4 * U a) = 4 * U a := IntWalk.u64_in _ (by omega)
    have t2 : IntKind.u64.wrap (4 * U a + 2) = 4 * U a + 2 := IntWalk.u64_in _ (by omega)
    clear hf h
    go_enter Try.func24, Try.ntmps24
    go_wp2
    go_ret2
    exact ⟨(retW_eq (x := BitVec.ofInt 64 (4 * U a + 2)) hU.out.symm).trans (by rw [HF.out]), rfl⟩
  · have hf : fwd a = (0#64, 1) := by unfold fwd; rw [if_neg h]
    have HF := Lib.hid hf
    have t : decide (4294967296 ≤ U a) = true := by simp; omega
    clear hf h
    go_enter Try.func24, Try.ntmps24
    go_wp2
    go_ret2
    exact ⟨by rw [HF.out]; rfl, rfl⟩

theorem target_any (x : BitVec 64) (w : World) :
    Calls Try.prog 25 #[.int .u64 (U x)] w fun e w' => e = retT x ∧ Below w.heap.size w w' := by
  have hu := unpack_tgt x
  have ha : U (x &&& ones 2) = U x % 4 := by rw [U_and_ones _ _ (by decide)]; rfl
  have hr0 := Reads.freshAs w #[.int .i64 2, .int .i64 32] 3 1 2 (([2, 32] : List Int).flatMap intCells) rfl rfl (by decide)
  by_cases h34 : U x < 17179869184
  · rw [if_pos h34] at hu
    have HU := Lib.hid hu
    by_cases h2 : U x % 4 = 2
    · have h2' : (U (x &&& ones 2) != 2) = false := by rw [ha]; simp [h2]
      have hd : retT x = .returned (.tuple #[.int .u64 (U (x >>> 2)), .bool true]) := by unfold retT; rw [if_pos (by simp [tgtOk, h2, h34])]
      have HD := Lib.hid hd
      clear hu ha h34 h2 hd
      go_enter Try.func25, Try.ntmps25
      go_wp2_with fail
      refine (unpack_any x _ _ _ _ _ hr0).mono ?_
      rw [HU.out]
      rintro e w1 ⟨A, c, he, hr, hb⟩
      simp only [List.length_cons, List.length_nil, Nat.zero_add, Nat.reduceAdd] at he hr
      subst he
      obtain ⟨b, off, rfl, hbb, hc⟩ := hr.at_ (by omega)
      have c0 := hc 0 _ rfl
      have c1 := hc 1 _ rfl
      rw [Nat.add_zero] at c0
      clear hc
      go_wp2_with fail
      go_ret2
      exact ⟨HD.out.symm, ((Below.refl _ _).alloc (Nat.le_refl _) _).trans (hb.mono (by simp))⟩
    · have h2' : (U (x &&& ones 2) != 2) = true := by rw [ha]; simp [h2]
      have hd : retT x = .returned (.tuple #[.int .u64 0, .bool false]) := by unfold retT; rw [if_neg (by simp [tgtOk, h2])]
      have HD := Lib.hid hd
      clear hu ha h34 h2 hd
      go_enter Try.func25, Try.ntmps25
      go_wp2_with fail
      refine (unpack_any x _ _ _ _ _ hr0).mono ?_
      rw [HU.out]
      rintro e w1 ⟨A, c, he, hr, hb⟩
      simp only [List.length_cons, List.length_nil, Nat.zero_add, Nat.reduceAdd] at he hr
      subst he
      obtain ⟨b, off, rfl, hbb, hc⟩ := hr.at_ (by omega)
      have c0 := hc 0 _ rfl
      rw [Nat.add_zero] at c0
      clear hc
      go_wp2_with fail
      go_ret2
      exact ⟨HD.out.symm, ((Below.refl _ _).alloc (Nat.le_refl _) _).trans (hb.mono (by simp))⟩
  · rw [if_neg h34] at hu
    have HU := Lib.hid hu
    have hd : retT x = .returned (.tuple #[.int .u64 0, .bool false]) := by unfold retT; rw [if_neg (by simp [tgtOk, h34])]
    have HD := Lib.hid hd
    clear hu ha h34 hd
    go_enter Try.func25, Try.ntmps25
    go_wp2_with fail
    refine (unpack_any x _ _ _ _ _ hr0).mono ?_
    rw [HU.out]
    rintro e w1 ⟨A, c, rfl, hr, hb⟩
    go_wp2_with fail
    go_ret2
    exact ⟨HD.out.symm, ((Below.refl _ _).alloc (Nat.le_refl _) _).trans (hb.mono (by simp))⟩
set_option maxRecDepth 100000 in
theorem rtarget_any (x : BitVec 64) (w : World) :
    Calls Try.prog 26 #[.int .u64 (U x)] w fun e w' => e = retT x ∧ w = w' := by
  have h0 := U_nonneg x
  have hs : U (x >>> 2) = U x / 4 := U_shr x 2
  by_cases h2 : U x % 4 = 2
  · have h2' : (U x % 4 != 2) = false := by simp [h2]
    by_cases h34 : U x < 17179869184
    · have hd : retT x = .returned (.tuple #[.int .u64 (U (x >>> 2)), .bool true]) := by unfold retT; rw [if_pos (by simp [tgtOk, h2, h34])]
      have HD := Lib.hid hd
      have t : decide ((4294967296 : Int) ≤ U (x >>> 2)) = false := by simp; omega
      clear hd hs h34 h2
      go_enter Try.func26, Try.ntmps26
      go_wp2
      go_ret2
      exact ⟨HD.out.symm, rfl⟩
    · have hd : retT x = .returned (.tuple #[.int .u64 0, .bool false]) := by unfold retT; rw [if_neg (by simp [tgtOk, h34])]
      have HD := Lib.hid hd
      have t : decide ((4294967296 : Int) ≤ U (x >>> 2)) = true := by simp; omega
      clear hd hs h34 h2
      go_enter Try.func26, Try.ntmps26
      go_wp2
      go_ret2
      exact ⟨HD.out.symm, rfl⟩
  · have h2' : (U x % 4 != 2) = true := by simp [h2]
    have hd : retT x = .returned (.tuple #[.int .u64 0, .bool false]) := by unfold retT; rw [if_neg (by simp [tgtOk, h2])]
    have HD := Lib.hid hd
    clear hd hs h2
    go_enter Try.func26, Try.ntmps26
    go_wp2
    go_ret2
    exact ⟨HD.out.symm, rfl⟩
end Go.Proofs.Ytcnlfokgofmnkaa

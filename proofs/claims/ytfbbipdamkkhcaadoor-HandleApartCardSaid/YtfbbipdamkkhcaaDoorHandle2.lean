/- The contracts of handle's Encode, and of the references of Valid and Encode. -/
import Derived.Test.YtfbbipdamkkhcaaDoorHandle
namespace Go.Proofs.YtfbbipdamkkhcaaDoor
open Go.RowKit Words

set_option maxRecDepth 100000 in
theorem rvalid_any (t i s : Int) (w : World) :
    Calls Tryd.prog 11 #[handV t i s] w fun e w' => e = .returned (.bool (validD t i s)) ∧ Below w.heap.size w w' := by
  by_cases t0 : 1 ≤ t
  · by_cases t1 : t ≤ 3
    · by_cases t2 : 0 ≤ i
      · by_cases t3 : i ≤ 65535
        · by_cases t4 : 1 ≤ s
          · by_cases t5 : s ≤ 4294967295
            · have HV := Lib.hid (show validD t i s = true by simp [validD]; omega)
              have e2 : decide (s ≤ (4294967295 : Int)) = true := decide_eq_true t5
              clear t5
              go_enter Tryd.func11, Tryd.ntmps11
              go_wp2
              go_ret
              exact ⟨ret_b HV.out.symm, by go_grown⟩
            · have HV := Lib.hid (show validD t i s = false by simp [validD]; omega)
              have e2 : decide (s ≤ (4294967295 : Int)) = false := decide_eq_false t5
              clear t5
              go_enter Tryd.func11, Tryd.ntmps11
              go_wp2
              go_ret
              exact ⟨ret_b HV.out.symm, by go_grown⟩
          · have HV := Lib.hid (show validD t i s = false by simp [validD]; omega)
            go_enter Tryd.func11, Tryd.ntmps11
            go_wp2
            go_ret
            exact ⟨ret_b HV.out.symm, by go_grown⟩
        · have HV := Lib.hid (show validD t i s = false by simp [validD]; omega)
          have e1 : decide (i ≤ 65535) = false := decide_eq_false t3
          go_enter Tryd.func11, Tryd.ntmps11
          go_wp2
          go_ret
          exact ⟨ret_b HV.out.symm, by go_grown⟩
      · have HV := Lib.hid (show validD t i s = false by simp [validD]; omega)
        go_enter Tryd.func11, Tryd.ntmps11
        go_wp2
        go_ret
        exact ⟨ret_b HV.out.symm, by go_grown⟩
    · have HV := Lib.hid (show validD t i s = false by simp [validD]; omega)
      go_enter Tryd.func11, Tryd.ntmps11
      go_wp2
      go_ret
      exact ⟨ret_b HV.out.symm, by go_grown⟩
  · have HV := Lib.hid (show validD t i s = false by simp [validD]; omega)
    go_enter Tryd.func11, Tryd.ntmps11
    go_wp2
    go_ret
    exact ⟨ret_b HV.out.symm, by go_grown⟩

/-- the word of a handle -/
def encD (t i s : Int) : BitVec 64 × Int := if validD t i s = true then (BitVec.ofInt 64 (t + 4 * i + 262144 * s), 0) else (0#64, 1)
theorem validD_range {t i s : Int} (h : validD t i s = true) : (1 ≤ t ∧ t ≤ 3) ∧ (0 ≤ i ∧ i ≤ 65535) ∧ 1 ≤ s ∧ s ≤ 4294967295 := by
  simp only [validD, Bool.and_eq_true, decide_eq_true_eq] at h
  omega
def fieldsD (t i s : Int) : List (Int × BitVec 64) := [(2, BitVec.ofInt 64 t), (16, BitVec.ofInt 64 i), (32, BitVec.ofInt 64 s)]
theorem pack_hand (t i s : Int) (hv : validD t i s = true) : pack (fieldsD t i s) = (BitVec.ofInt 64 (t + 4 * i + 262144 * s), 0) := by
  obtain ⟨ht, hi, hs⟩ := validD_range hv
  have ut := U_ofInt t (by omega) (by omega)
  have ui := U_ofInt i (by omega) (by omega)
  have us := U_ofInt s (by omega) (by omega)
  have f1 : (BitVec.ofInt 64 t &&& ~~~ones (2 : Int).toNat == 0#64) = true := by rw [fits_lt _ _ (by decide), ut]; simp; omega
  have f2 : (BitVec.ofInt 64 i &&& ~~~ones (16 : Int).toNat == 0#64) = true := by rw [fits_lt _ _ (by decide), ui]; simp; omega
  have f3 : (BitVec.ofInt 64 s &&& ~~~ones (32 : Int).toNat == 0#64) = true := by rw [fits_lt _ _ (by decide), us]; simp; omega
  have hw : wOk (fieldsD t i s) 64 = true := by simp [wOk, fieldsD]
  have e1 : (0#64 ||| BitVec.ofInt 64 t <<< (0 : Int).toNat) = BitVec.ofInt 64 t := by simp
  have e2 := U_or_shl (BitVec.ofInt 64 t) (BitVec.ofInt 64 i) 2 (by rw [ut]; omega) (by rw [ui]; omega)
  rw [ut, ui] at e2
  have e3 := U_or_shl (BitVec.ofInt 64 t ||| BitVec.ofInt 64 i <<< 2) (BitVec.ofInt 64 s) 18 (by rw [e2]; omega) (by rw [us]; omega)
  rw [e2, us] at e3
  have hv' : (BitVec.ofInt 64 t ||| BitVec.ofInt 64 i <<< 2) ||| BitVec.ofInt 64 s <<< 18 = BitVec.ofInt 64 (t + 4 * i + 262144 * s) := by
    apply U_inj
    rw [e3, U_ofInt _ (by omega) (by omega)]
    omega
  unfold pack
  rw [if_pos hw]
  simp only [fieldsD, packGo, f1, f2, f3, if_true, e1]
  rw [show (0 + 2 : Int).toNat = 2 from rfl, show (0 + 2 + 16 : Int).toNat = 18 from rfl, hv']
  rfl
theorem retW_eq {a : Int} {x : BitVec 64} {e : Int} (h : a = U x) : Ending.returned (.tuple #[.int .u64 a, .int .i64 e]) = retW (x, e) := by subst h; rfl

theorem rencode_any (t i s : Int) (w : World) :
    Calls Tryd.prog 8 #[handV t i s] w fun e w' => e = retW (encD t i s) ∧ Below w.heap.size w w' := by
  by_cases hv : validD t i s = true
  · obtain ⟨ht, hi, hs⟩ := validD_range hv
    have hU := Lib.hid (U_ofInt (t + 4 * i + 262144 * s) (by omega) (by omega))
    have HV := Lib.hid hv
    clear hv
    go_enter Tryd.func8, Tryd.ntmps8
    go_wp2_with (go_at_call 11; refine (rvalid_any _ _ _ _).mono ?_; rintro e w1 ⟨rfl, hb⟩; rw [HV.out]; obtain ⟨hc, hf⟩ := bcell hb)
    go_ret2
    exact ⟨(retW_eq (x := BitVec.ofInt 64 (t + 4 * i + 262144 * s)) (by rw [hU.out]; omega)).trans (by unfold encD; rw [if_pos HV.out]), ((Below.refl _ _).alloc (Nat.le_refl _) _).trans (hb.mono (by simp))⟩
  · simp only [Bool.not_eq_true] at hv
    have HV := Lib.hid hv
    clear hv
    go_enter Tryd.func8, Tryd.ntmps8
    go_wp2_with (go_at_call 11; refine (rvalid_any _ _ _ _).mono ?_; rintro e w1 ⟨rfl, hb⟩; rw [HV.out])
    go_ret2
    exact ⟨by unfold retW encD; rw [HV.out]; rfl, ((Below.refl _ _).alloc (Nat.le_refl _) _).trans (hb.mono (by simp))⟩

theorem tyFields : SlTy Tryd.prog 34 37 2 16 := SlTy.mk' (z := .agg #[.int .i64 0, .int .u64 0]) Tryd.underlying34 (by kernel_rfl) rfl (by omega)

theorem encode_any (t i s : Int) (w : World) (hT : Tab w) (hi0 : -9223372036854775808 ≤ i) (hi1 : i ≤ 9223372036854775807) (hs0 : -9223372036854775808 ≤ s) (hs1 : s ≤ 9223372036854775807) :
    Calls Tryd.prog 7 #[handV t i s] w fun e w' => e = retW (encD t i s) ∧ Below w.heap.size w w' := by
  have hTa := hT.alloc (.cells #[.int .i64 t, .int .i64 i, .int .i64 s] 23)
  have hsz := hT.size
  by_cases hv : validD t i s = true
  · obtain ⟨ht, hi, hs⟩ := validD_range hv
    have ut := Lib.hid (U_ofInt t (by omega) (by omega)).symm
    have ui := Lib.hid (U_ofInt i (by omega) (by omega)).symm
    have us := Lib.hid (U_ofInt s (by omega) (by omega)).symm
    have HP := Lib.hid (pack_hand t i s hv)
    have w1 : IntKind.u64.wrap t = t := IntWalk.u64_in _ (by omega)
    have w2 : IntKind.u64.wrap i = i := IntWalk.u64_in _ (by omega)
    have w3 : IntKind.u64.wrap s = s := IntWalk.u64_in _ (by omega)
    have HV := Lib.hid hv
    clear hv
    go_enter Tryd.func7, Tryd.ntmps7
    go_wp2_with (go_at_call 10; refine (valid_any _ _ _ _ hTa hi0 hi1 hs0 hs1).mono ?_; rintro e w1 ⟨rfl, hb⟩; rw [HV.out]; obtain ⟨hc, hf⟩ := bcell hb)
    have T0 := Lib.hid (hTa.below hb)
    have hr0 := hb.size
    simp only [World.size_alloc] at hr0
    have hB0 : Below w.heap.size w w1 := (keep_alloc (Below.refl _ _) _).trans (hb.mono (by simp))
    have HC0 := Lib.hid (show (((fieldsD t i s).take 0).flatMap fieldCells) ++ [.int .i64 2, .int .u64 t] = ((fieldsD t i s).take 1).flatMap fieldCells by simp [fieldsD, fieldCells, ← ut.out])
    have HC1 := Lib.hid (show (((fieldsD t i s).take 1).flatMap fieldCells) ++ [.int .i64 16, .int .u64 i] = ((fieldsD t i s).take 2).flatMap fieldCells by simp [fieldsD, fieldCells, ← ui.out])
    have HC2 := Lib.hid (show (((fieldsD t i s).take 2).flatMap fieldCells) ++ [.int .i64 32, .int .u64 s] = ((fieldsD t i s).take 3).flatMap fieldCells by simp [fieldsD, fieldCells, ← us.out])
    obtain ⟨F, hF⟩ : ∃ F, fieldsD t i s = F := ⟨_, rfl⟩
    rw [hF] at HC0 HC1 HC2 HP
    have hF3 : F.take 3 = F := by rw [← hF]; rfl
    have hFl : F.length = 3 := by rw [← hF]; rfl
    have HF3 := Lib.hid hF3
    have HFL := Lib.hid hFl
    clear hc hf hb hF hF3 hFl hTa
    have ix0 : ∀ W, Sem.run Tryd.prog (Instr.index 35 (.agg #[.int .i64 t, .int .i64 i, .int .i64 s]) (.int .i64 0)) W = .ok (.int .i64 t) W := fun W => by rfl
    have ix1 : ∀ W, Sem.run Tryd.prog (Instr.index 35 (.agg #[.int .i64 t, .int .i64 i, .int .i64 s]) (.int .i64 1)) W = .ok (.int .i64 i) W := fun W => by rfl
    have ix2 : ∀ W, Sem.run Tryd.prog (Instr.index 35 (.agg #[.int .i64 t, .int .i64 i, .int .i64 s]) (.int .i64 2)) W = .ok (.int .i64 s) W := fun W => by rfl
    go_loopw [4, 17] (fun v x wr => ∃ k : Nat, k ≤ 3 ∧ x = .int .i64 k ∧ wr.ownsRow w1.heap.size 37 2 v k ((F.take k).flatMap fieldCells) ∧ Below w1.heap.size w1 wr) (fun _ x _ => 3 - (intOf x).toNat)
    case atStart => exact ⟨0, by omega, rfl, World.ownsRow_nil _ _ _ _, Below.refl _ _⟩
    case round =>
      obtain ⟨k, hk, rfl, hown, hbr⟩ := hrel
      have T := T0.out.below hbr
      have hszr := hbr.size
      match k, hk with
      | 0, _ =>
        have c := T.c0
        have q1 : 0 + 1 ≤ maxLen := by unfold maxLen; omega
        have q2 : (0 + 1) * 16 ≤ 140737488355328 := by omega
        clear hr0
        go_wp2_with (at_builtin; refine wpList_app rfl _ _ _ rfl tyFields rfl (hown.alloc _) rfl (Reads.fresh wr _ _ 2 1 rfl (by decide)) (by simp [Value.oneCell']) q1 q2 (by simp; omega) ?_)
        intro v' w3' hown' hb'
        go_wp2
        go_roundw
        case rel =>
          refine ⟨0 + 1, by omega, by go_num, ?_, (hbr.alloc hszr _).trans hb'⟩
          rw [← HC0.out]
          exact hown'
        case measure => simp [intOf]
      | 1, _ =>
        have c := T.c1
        have q1 : 1 + 1 ≤ maxLen := by unfold maxLen; omega
        have q2 : (1 + 1) * 16 ≤ 140737488355328 := by omega
        clear hr0
        go_wp2_with (at_builtin; refine wpList_app rfl _ _ _ rfl tyFields rfl (hown.alloc _) rfl (Reads.fresh wr _ _ 2 1 rfl (by decide)) (by simp [Value.oneCell']) q1 q2 (by simp; omega) ?_)
        intro v' w3' hown' hb'
        go_wp2
        go_roundw
        case rel =>
          refine ⟨1 + 1, by omega, by go_num, ?_, (hbr.alloc hszr _).trans hb'⟩
          rw [← HC1.out]
          exact hown'
        case measure => simp [intOf]
      | 2, _ =>
        have c := T.c2
        have q1 : 2 + 1 ≤ maxLen := by unfold maxLen; omega
        have q2 : (2 + 1) * 16 ≤ 140737488355328 := by omega
        clear hr0
        go_wp2_with (at_builtin; refine wpList_app rfl _ _ _ rfl tyFields rfl (hown.alloc _) rfl (Reads.fresh wr _ _ 2 1 rfl (by decide)) (by simp [Value.oneCell']) q1 q2 (by simp; omega) ?_)
        intro v' w3' hown' hb'
        go_wp2
        go_roundw
        case rel =>
          refine ⟨2 + 1, by omega, by go_num, ?_, (hbr.alloc hszr _).trans hb'⟩
          rw [← HC2.out]
          exact hown'
        case measure => simp [intOf]
      | 3, _ =>
        rw [HF3.out] at hown
        obtain ⟨A', c', rfl, hr'⟩ := Reads.own hown
        go_wp2_with fail
        refine (pack_any _ _ _ _ _ hr').mono ?_
        rintro e w5 ⟨rfl, hb5⟩
        rw [HP.out]
        unfold retW
        go_wp2_with fail
        go_ret2
        exact ⟨by unfold retW encD; rw [if_pos HV.out]; rfl, keep_below hb5 (keep_below hbr hB0)⟩
  · simp only [Bool.not_eq_true] at hv
    have HV := Lib.hid hv
    clear hv
    go_enter Tryd.func7, Tryd.ntmps7
    go_wp2_with (go_at_call 10; refine (valid_any _ _ _ _ hTa hi0 hi1 hs0 hs1).mono ?_; rintro e w1 ⟨rfl, hb⟩; rw [HV.out])
    go_ret2
    exact ⟨by unfold retW encD; rw [HV.out]; rfl, ((Below.refl _ _).alloc (Nat.le_refl _) _).trans (hb.mono (by simp))⟩
end Go.Proofs.YtfbbipdamkkhcaaDoor

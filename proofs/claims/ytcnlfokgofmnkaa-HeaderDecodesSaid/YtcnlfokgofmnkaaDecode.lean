/- The contracts of header's Decode, Forward, Target and their references. -/
import Derived.Test.YtcnlfokgofmnkaaHead
import Derived.Test.YtcnlfokgofmnkaaUnpack
import Derived.Deep.RegionHeld3
namespace Go.Proofs.Ytcnlfokgofmnkaa
open Go.RowKit Words

/-- the header of a word -/
def decK (w : BitVec 64) : Int := U w / 4 % 4
def decL (w : BitVec 64) : Int := U w / 16 % 4096
def decM (w : BitVec 64) : Int := U w / 65536 % 4294967296
def decOk (w : BitVec 64) : Bool := decide (U w % 4 = 1) && decide (U w < 281474976710656) && validH (decK w) (decL w) (decM w)
def retD (w : BitVec 64) : Ending := if decOk w = true then .returned (.tuple #[headV (decK w) (decL w) (decM w), .bool true]) else .returned (.tuple #[headV 0 0 0, .bool false])

theorem unpack_head (w : BitVec 64) : unpack w [2, 2, 12, 32] = if U w < 281474976710656 then ([w &&& ones 2, (w >>> 2) &&& ones 2, (w >>> 4) &&& ones 12, (w >>> 16) &&& ones 32], 0) else ([], 2) := by
  have h1 : unOk [2, 2, 12, 32] 64 = true := by decide
  have e2 : w >>> 2 >>> 2 = w >>> 4 := by rw [← BitVec.shiftRight_add]
  have e3 : w >>> 4 >>> 12 = w >>> 16 := by rw [← BitVec.shiftRight_add]
  have e4 : w >>> 16 >>> 32 = w >>> 48 := by rw [← BitVec.shiftRight_add]
  have hz : (w >>> 48 == 0#64) = decide (U w < 281474976710656) := by
    rw [← zero_iff, fits_lt _ _ (by decide)]
    rfl
  unfold unpack
  rw [if_pos h1]
  simp only [unGo, show (2 : Int).toNat = 2 from rfl, show (12 : Int).toNat = 12 from rfl, show (32 : Int).toNat = 32 from rfl, e2, e3, e4, hz, decide_eq_true_eq]
theorem U_head (w : BitVec 64) : U (w &&& ones 2) = U w % 4 ∧ U ((w >>> 2) &&& ones 2) = decK w ∧ U ((w >>> 4) &&& ones 12) = decL w ∧ U ((w >>> 16) &&& ones 32) = decM w := by
  refine ⟨?_, ?_, ?_, ?_⟩
  · rw [U_and_ones _ _ (by decide)]; rfl
  · rw [U_and_ones _ _ (by decide), U_shr]; rfl
  · rw [U_and_ones _ _ (by decide), U_shr]; rfl
  · rw [U_and_ones _ _ (by decide), U_shr]; rfl
theorem dec_range (w : BitVec 64) : 0 ≤ decK w ∧ decK w ≤ 3 ∧ 0 ≤ decL w ∧ decL w ≤ 4095 ∧ 0 ≤ decM w ∧ decM w ≤ 4294967295 := by
  unfold decK decL decM; omega

def ZH : Array Value := #[.int .i64 0, .int .i64 0, .int .u32 0]
theorem zh3 {w : World} {g : Nat} {t : TypeId} (h : Blk w g t ZH) : w.cell? ⟨g, 0, none⟩ = some (.int .i64 0) ∧ w.cell? ⟨g, 1, none⟩ = some (.int .i64 0) ∧ w.cell? ⟨g, 2, none⟩ = some (.int .u32 0) ∧ ∀ o, w.frozen? ⟨g, o, none⟩ = false :=
  ⟨h.cell 0 _ rfl, h.cell 1 _ rfl, h.cell 2 _ rfl, h.free⟩

/-- Unpack of a header's fields, at the place where header.Decode calls it -/
theorem unpack_at (x : BitVec 64) (w : World) :
    Calls Try.prog 29 #[.int .u64 (U x), .slice (some ⟨w.heap.size + 1, 0, none⟩) 4 4] ((w.alloc (.cells #[.int .i64 0, .int .i64 0, .int .u32 0] 24)).alloc (.cells #[.int .i64 2, .int .i64 2, .int .i64 12, .int .i64 32] 3))
      fun e w1 => ∃ A c, e = .returned (.tuple #[.slice A (unpack x [2, 2, 12, 32]).1.length c, .int .i64 (unpack x [2, 2, 12, 32]).2]) ∧ Reads w1 w1.heap.size 1 A (unpack x [2, 2, 12, 32]).1.length c ((unpack x [2, 2, 12, 32]).1.flatMap wordCells) ∧ Below w.heap.size w w1 ∧ Blk w1 w.heap.size 24 ZH ∧ w.heap.size < w1.heap.size := by
  have hr0 := Reads.freshAt (w.alloc (.cells #[.int .i64 0, .int .i64 0, .int .u32 0] 24)) #[.int .i64 2, .int .i64 2, .int .i64 12, .int .i64 32] 3 1 4 (([2, 2, 12, 32] : List Int).flatMap intCells) (w.heap.size + 1) (by simp) rfl rfl (by decide)
  refine (unpack_any x _ _ _ _ _ hr0).mono ?_
  rintro e w1 ⟨A, c, he, hr, hb⟩
  have hs1 := hb.size
  simp only [World.size_alloc] at hs1
  exact ⟨A, c, he, hr, (((Below.refl _ _).alloc (Nat.le_refl _) _).alloc (by simp) _).trans (hb.mono (by simp; omega)), ((Blk.new w _ _).alloc _).below hb, by omega⟩

set_option maxRecDepth 100000 in
theorem decode_any (x : BitVec 64) (w : World) :
    Calls Try.prog 21 #[.int .u64 (U x)] w fun e w' => e = retD x ∧ Below w.heap.size w w' := by
  obtain ⟨k0, k1, l0, l1, m0, m1⟩ := dec_range x
  have hu := unpack_head x
  obtain ⟨a0, a1, a2, a3⟩ := U_head x
  by_cases h48 : U x < 281474976710656
  · rw [if_pos h48] at hu
    have HU := Lib.hid hu
    generalize x &&& ones 2 = y0 at *
    generalize (x >>> 2) &&& ones 2 = y1 at *
    generalize (x >>> 4) &&& ones 12 = y2 at *
    generalize (x >>> 16) &&& ones 32 = y3 at *
    have r1 : U y1 ≤ 3 := by omega
    have r2 : U y2 ≤ 4095 := by omega
    have r3 : U y3 ≤ 4294967295 := by omega
    have r1' := U_nonneg y1
    have r2' := U_nonneg y2
    have r3' := U_nonneg y3
    have A0 := Lib.hid a0
    have A1 := Lib.hid a1
    have A2 := Lib.hid a2
    have A3 := Lib.hid a3
    have H48 := Lib.hid h48
    clear hu a0 a1 a2 a3 k0 k1 l0 l1 m0 m1 h48
    go_enter Try.func21, Try.ntmps21
    go_wp2_with fail
    refine (unpack_at x w).mono ?_
    rw [HU.out]
    rintro e w1 ⟨A, c, he, hr, hB, hR, hs1⟩
    simp only [List.length_cons, List.length_nil, Nat.zero_add, Nat.reduceAdd] at he hr
    subst he
    obtain ⟨b, off, rfl, hbb, hc⟩ := hr.at_ (by omega)
    have c0 := hc 0 _ rfl
    have c1 := hc 1 _ rfl
    have c2 := hc 2 _ rfl
    have c3 := hc 3 _ rfl
    rw [Nat.add_zero] at c0
    obtain ⟨q0, q1, q2, f0⟩ := zh3 hR
    clear hc hr
    by_cases h1 : U x % 4 = 1
    · have h1' : (U y0 != 1) = false := by rw [A0.out]; simp [h1]
      have H1 := Lib.hid h1
      clear h1
      have x1 : IntKind.i64.wrap (U y1) = U y1 := IntWalk.i64_in _ (by omega)
      have x2 : IntKind.i64.wrap (U y2) = U y2 := IntWalk.i64_in _ (by omega)
      have x3 : IntKind.u32.wrap (U y3) = U y3 := IntWalk.u32_in _ (by omega)
      go_wp2_with fail
      go_region_held3 (fun w' => w'.cell? ⟨b, off + 1, none⟩ = some (.int .u64 (U y1)) ∧ w'.cell? ⟨b, off + 2, none⟩ = some (.int .u64 (U y2)) ∧ w'.cell? ⟨b, off + 3, none⟩ = some (.int .u64 (U y3))) (go_keep) (fail)
      go_wp2_with fail
      by_cases hv : validH (decK x) (decL x) (decM x) = true
      · have hv' : validH (U y1) (U y2) (U y3) = true := by rw [A1.out, A2.out, A3.out]; exact hv
        have hd : retD x = .returned (.tuple #[headV (U y1) (U y2) (U y3), .bool true]) := by
          unfold retD
          rw [if_pos (by simp [decOk, H1.out, H48.out, hv]), ← A1.out, ← A2.out, ← A3.out]
        have HD := Lib.hid hd
        clear hv hd
        refine (valid_any _ _ _ _ r3' r3).mono ?_
        rintro e w2 ⟨rfl, hb2⟩
        obtain ⟨g0, g1, g2, gf⟩ := zh3 ((hR.drew.alloc _).below hb2)
        have hE := (Blk.new w1.drew #[.int .i64 (U y1), .int .i64 (U y2), .int .u32 (U y3)] 24).below hb2
        have e0 : w2.cell? ⟨w1.heap.size, 0, none⟩ = some (.int .i64 (U y1)) := hE.cell 0 _ rfl
        have e1 : w2.cell? ⟨w1.heap.size, 1, none⟩ = some (.int .i64 (U y2)) := hE.cell 1 _ rfl
        have e2 : w2.cell? ⟨w1.heap.size, 2, none⟩ = some (.int .u32 (U y3)) := hE.cell 2 _ rfl
        have hs2 := hb2.size
        simp at hs2
        have hB2 : Below w.heap.size w w2 := (hB.drew.alloc (by simp; omega) _).trans (hb2.mono (by simp; omega))
        clear q0 q1 q2 f0 hb2 hE c0 c1 c2 c3
        go_wp2_with fail
        refine bodyPost_ret (v := .tuple #[headV (U y1) (U y2) (U y3), .bool true]) (by simp [results, Try.results21, go_sem, g0, g1, g2]) rfl ?_
        refine ⟨HD.out.symm, ?_⟩
        exact hB2.setCell (by simp) _ |>.setCell (by simp) _ |>.setCell (by simp) _
      · simp only [Bool.not_eq_true] at hv
        have hv' : validH (U y1) (U y2) (U y3) = false := by rw [A1.out, A2.out, A3.out]; exact hv
        have HV := Lib.hid hv
        clear hv
        refine (valid_any _ _ _ _ r3' r3).mono ?_
        rintro e w2 ⟨rfl, hb2⟩
        obtain ⟨g0, g1, g2, gf⟩ := zh3 ((hR.drew.alloc _).below hb2)
        have hs2 := hb2.size
        simp at hs2
        have hB2 : Below w.heap.size w w2 := (hB.drew.alloc (by simp; omega) _).trans (hb2.mono (by simp; omega))
        clear q0 q1 q2 f0 hb2 c0 c1 c2 c3
        go_wp2_with fail
        refine bodyPost_ret (v := .tuple #[headV 0 0 0, .bool false]) (by simp [results, Try.results21, go_sem, g0, g1, g2]) rfl ?_
        refine ⟨by unfold retD; rw [if_neg (by simp [decOk, HV.out])], ?_⟩
        exact hB2.setCell (by simp) _ |>.setCell (by simp) _ |>.setCell (by simp) _
    · have h1' : (U y0 != 1) = true := by rw [A0.out]; simp [h1]
      go_wp2_with fail
      refine bodyPost_ret (v := .tuple #[headV 0 0 0, .bool false]) (by simp [results, Try.results21, go_sem, q0, q1, q2]) rfl ?_
      refine ⟨by unfold retD; rw [if_neg (by simp [decOk, h1])], ?_⟩
      exact hB.setCell (by simp) _ |>.setCell (by simp) _ |>.setCell (by simp) _
  · rw [if_neg h48] at hu
    have HU := Lib.hid hu
    have hd : retD x = .returned (.tuple #[headV 0 0 0, .bool false]) := by unfold retD; rw [if_neg (by simp [decOk, h48])]
    have HD := Lib.hid hd
    clear hu a0 a1 a2 a3 h48 hd
    go_enter Try.func21, Try.ntmps21
    go_wp2_with fail
    refine (unpack_at x w).mono ?_
    rw [HU.out]
    rintro e w1 ⟨A, c, rfl, hr, hB, hR, hs1⟩
    obtain ⟨q0, q1, q2, f0⟩ := zh3 hR
    clear hr
    go_wp2_with fail
    refine bodyPost_ret (v := .tuple #[headV 0 0 0, .bool false]) (by simp [results, Try.results21, go_sem, q0, q1, q2]) rfl ?_
    refine ⟨HD.out.symm, ?_⟩
    exact hB.setCell (by simp) _ |>.setCell (by simp) _ |>.setCell (by simp) _
end Go.Proofs.Ytcnlfokgofmnkaa

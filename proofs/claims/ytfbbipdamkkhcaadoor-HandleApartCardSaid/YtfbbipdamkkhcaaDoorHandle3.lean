/- The contracts of handle's Decode and of its reference. -/
import Derived.Test.YtfbbipdamkkhcaaDoorHandle2
import Derived.Test.YtfbbipdamkkhcaaDoorUnpack
import Derived.Deep.RegionHeld3
namespace Go.Proofs.YtfbbipdamkkhcaaDoor
open Go.RowKit Words

/-- the handle of a word -/
def decT (w : BitVec 64) : Int := U w % 4
def decI (w : BitVec 64) : Int := U w / 4 % 65536
def decS (w : BitVec 64) : Int := U w / 262144 % 4294967296
def decOk (w : BitVec 64) : Bool := decide (U w < 1125899906842624) && validD (decT w) (decI w) (decS w)
def retH (t i s e : Int) : Ending := .returned (.tuple #[handV t i s, .int .i64 e])
def retD (w : BitVec 64) : Ending := if U w = 0 then retH 0 0 0 5 else if decOk w = true then retH (decT w) (decI w) (decS w) 0 else retH 0 0 0 6

theorem unpack_hand (w : BitVec 64) : unpack w [2, 16, 32] = if U w < 1125899906842624 then ([w &&& ones 2, (w >>> 2) &&& ones 16, (w >>> 18) &&& ones 32], 0) else ([], 2) := by
  have h1 : unOk [2, 16, 32] 64 = true := by decide
  have e3 : w >>> 2 >>> 16 = w >>> 18 := by rw [← BitVec.shiftRight_add]
  have e4 : w >>> 18 >>> 32 = w >>> 50 := by rw [← BitVec.shiftRight_add]
  have hz : (w >>> 50 == 0#64) = decide (U w < 1125899906842624) := by
    rw [← zero_iff, fits_lt _ _ (by decide)]
    rfl
  unfold unpack
  rw [if_pos h1]
  simp only [unGo, show (2 : Int).toNat = 2 from rfl, show (16 : Int).toNat = 16 from rfl, show (32 : Int).toNat = 32 from rfl, e3, e4, hz, decide_eq_true_eq]
theorem U_hand (w : BitVec 64) : U (w &&& ones 2) = decT w ∧ U ((w >>> 2) &&& ones 16) = decI w ∧ U ((w >>> 18) &&& ones 32) = decS w := by
  refine ⟨?_, ?_, ?_⟩
  · rw [U_and_ones _ _ (by decide)]; rfl
  · rw [U_and_ones _ _ (by decide), U_shr]; rfl
  · rw [U_and_ones _ _ (by decide), U_shr]; rfl
theorem dec_range (w : BitVec 64) : (0 ≤ decT w ∧ decT w ≤ 3) ∧ (0 ≤ decI w ∧ decI w ≤ 65535) ∧ 0 ≤ decS w ∧ decS w ≤ 4294967295 := by
  unfold decT decI decS; omega

def ZD : Array Value := #[.int .i64 0, .int .i64 0, .int .i64 0]
theorem zd3 {w : World} {g : Nat} {t : TypeId} (h : Blk w g t ZD) : w.cell? ⟨g, 0, none⟩ = some (.int .i64 0) ∧ w.cell? ⟨g, 1, none⟩ = some (.int .i64 0) ∧ w.cell? ⟨g, 2, none⟩ = some (.int .i64 0) ∧ ∀ o, w.frozen? ⟨g, o, none⟩ = false :=
  ⟨h.cell 0 _ rfl, h.cell 1 _ rfl, h.cell 2 _ rfl, h.free⟩
theorem Tab.reads {w : World} (h : Tab w) : Reads w w.heap.size 1 (some ⟨0, 0, none⟩) 3 3 (([2, 16, 32] : List Int).flatMap intCells) :=
  ⟨rfl, Nat.le_refl _, by decide, (fun h => by cases h), fun _ => ⟨0, 0, rfl, h.size, fun j u hu => by
    match j, hu with
    | 0, hu => injection hu with hu; subst hu; exact h.c0
    | 1, hu => injection hu with hu; subst hu; exact h.c1
    | 2, hu => injection hu with hu; subst hu; exact h.c2⟩⟩

/-- Unpack of a handle's fields, at the place where handle.Decode calls it -/
theorem unpack_at (x : BitVec 64) (w : World) (hT : Tab w) :
    Calls Tryd.prog 16 #[.int .u64 (U x), .slice (some ⟨0, 0, none⟩) 3 3] (w.alloc (.cells #[.int .i64 0, .int .i64 0, .int .i64 0] 23))
      fun e w1 => ∃ A c, e = .returned (.tuple #[.slice A (unpack x [2, 16, 32]).1.length c, .int .i64 (unpack x [2, 16, 32]).2]) ∧ Reads w1 w1.heap.size 1 A (unpack x [2, 16, 32]).1.length c ((unpack x [2, 16, 32]).1.flatMap wordCells) ∧ Below w.heap.size w w1 ∧ Blk w1 w.heap.size 23 ZD ∧ w.heap.size < w1.heap.size ∧ Tab w1 := by
  have hT1 := hT.alloc (.cells #[.int .i64 0, .int .i64 0, .int .i64 0] 23)
  refine (unpack_any x _ _ _ _ _ hT1.reads).mono ?_
  rintro e w1 ⟨A, c, he, hr, hb⟩
  have hs1 := hb.size
  simp only [World.size_alloc] at hs1
  exact ⟨A, c, he, hr, ((Below.refl _ _).alloc (Nat.le_refl _) _).trans (hb.mono (by simp)), (Blk.new w _ _).below hb, by omega, hT1.below hb⟩

set_option maxRecDepth 100000 in
theorem decode_any (x : BitVec 64) (w : World) (hT : Tab w) :
    Calls Tryd.prog 12 #[.int .u64 (U x)] w fun e w' => e = retD x ∧ Below w.heap.size w w' := by
  obtain ⟨⟨t0, t1⟩, ⟨i0, i1⟩, s0, s1⟩ := dec_range x
  have hu := unpack_hand x
  obtain ⟨a0, a1, a2⟩ := U_hand x
  by_cases hx0 : U x = 0
  · have hd : retD x = retH 0 0 0 5 := by unfold retD; rw [if_pos hx0]
    have HD := Lib.hid hd
    have hz : (U x == 0) = true := by rw [hx0]; rfl
    have HX := Lib.hid hx0
    clear hu a0 a1 a2 hd hx0 t0 t1 i0 i1 s0 s1
    go_enter Tryd.func12, Tryd.ntmps12
    go_wp2_with fail
    have hE := zd3 (Blk.new w #[.int .i64 0, .int .i64 0, .int .i64 0] 23)
    obtain ⟨q0, q1, q2, -⟩ := hE
    refine bodyPost_ret (v := .tuple #[handV 0 0 0, .int .i64 5]) (by simp [results, Tryd.results12, go_sem, q0, q1, q2]) rfl ?_
    exact ⟨HD.out.symm, keep_alloc (Below.refl _ _) _⟩
  have hz : (U x == 0) = false := by simp [hx0]
  by_cases h48 : U x < 1125899906842624
  · rw [if_pos h48] at hu
    have HU := Lib.hid hu
    generalize x &&& ones 2 = y0 at *
    generalize (x >>> 2) &&& ones 16 = y1 at *
    generalize (x >>> 18) &&& ones 32 = y2 at *
    have r0 : U y0 ≤ 3 := by omega
    have r1 : U y1 ≤ 65535 := by omega
    have r2 : U y2 ≤ 4294967295 := by omega
    have r0' := U_nonneg y0
    have r1' := U_nonneg y1
    have r2' := U_nonneg y2
    have A0 := Lib.hid a0
    have A1 := Lib.hid a1
    have A2 := Lib.hid a2
    have H48 := Lib.hid h48
    have HX := Lib.hid hx0
    clear hu a0 a1 a2 t0 t1 i0 i1 s0 s1 h48 hx0
    go_enter Tryd.func12, Tryd.ntmps12
    go_wp2_with fail
    refine (unpack_at x w hT).mono ?_
    rw [HU.out]
    rintro e w1 ⟨A, c, he, hr, hB, hR, hs1, T1⟩
    simp only [List.length_cons, List.length_nil, Nat.zero_add, Nat.reduceAdd] at he hr
    subst he
    obtain ⟨b, off, rfl, hbb, hc⟩ := hr.at_ (by omega)
    have c0 := hc 0 _ rfl
    have c1 := hc 1 _ rfl
    have c2 := hc 2 _ rfl
    rw [Nat.add_zero] at c0
    obtain ⟨q0, q1, q2, f0⟩ := zd3 hR
    clear hc hr
    have x0 : IntKind.i64.wrap (U y0) = U y0 := IntWalk.i64_in _ (by omega)
    have x1 : IntKind.i64.wrap (U y1) = U y1 := IntWalk.i64_in _ (by omega)
    have x2 : IntKind.i64.wrap (U y2) = U y2 := IntWalk.i64_in _ (by omega)
    go_wp2_with fail
    go_region_held3 (fun w' => w'.cell? ⟨b, off, none⟩ = some (.int .u64 (U y0)) ∧ w'.cell? ⟨b, off + 1, none⟩ = some (.int .u64 (U y1)) ∧ w'.cell? ⟨b, off + 2, none⟩ = some (.int .u64 (U y2))) (go_keep) (fail)
    go_wp2_with fail
    have TV : Tab (w1.drew.alloc (.cells #[.int .i64 (U y0), .int .i64 (U y1), .int .i64 (U y2)] 23)) := Tab.alloc (w := w1.drew) ⟨T1.c0, T1.c1, T1.c2⟩ _
    by_cases hv : validD (decT x) (decI x) (decS x) = true
    · have hv' : validD (U y0) (U y1) (U y2) = true := by rw [A0.out, A1.out, A2.out]; exact hv
      have hd : retD x = retH (U y0) (U y1) (U y2) 0 := by
        unfold retD
        rw [if_neg HX.out, if_pos (by simp [decOk, H48.out, hv]), ← A0.out, ← A1.out, ← A2.out]
      have HD := Lib.hid hd
      have HV := Lib.hid hv'
      clear hv hd hv'
      refine (valid_any _ _ _ _ TV (by omega) (by omega) (by omega) (by omega)).mono ?_
      rintro e w2 ⟨rfl, hb2⟩
      rw [HV.out]
      obtain ⟨g0, g1, g2, gf⟩ := zd3 ((hR.drew.alloc _).below hb2)
      have hE := (Blk.new w1.drew #[.int .i64 (U y0), .int .i64 (U y1), .int .i64 (U y2)] 23).below hb2
      have e0 : w2.cell? ⟨w1.heap.size, 0, none⟩ = some (.int .i64 (U y0)) := hE.cell 0 _ rfl
      have e1 : w2.cell? ⟨w1.heap.size, 1, none⟩ = some (.int .i64 (U y1)) := hE.cell 1 _ rfl
      have e2 : w2.cell? ⟨w1.heap.size, 2, none⟩ = some (.int .i64 (U y2)) := hE.cell 2 _ rfl
      have hs2 := hb2.size
      simp at hs2
      have hB2 : Below w.heap.size w w2 := (hB.drew.alloc (by simp; omega) _).trans (hb2.mono (by simp; omega))
      clear q0 q1 q2 f0 hb2 hE c0 c1 c2 TV
      go_wp2_with fail
      refine bodyPost_ret (v := .tuple #[handV (U y0) (U y1) (U y2), .int .i64 0]) (by simp [results, Tryd.results12, go_sem, g0, g1, g2]) rfl ?_
      refine ⟨HD.out.symm, ?_⟩
      exact hB2.setCell (by simp) _ |>.setCell (by simp) _ |>.setCell (by simp) _
    · simp only [Bool.not_eq_true] at hv
      have hv' : validD (U y0) (U y1) (U y2) = false := by rw [A0.out, A1.out, A2.out]; exact hv
      have hd : retD x = retH 0 0 0 6 := by
        unfold retD
        rw [if_neg HX.out, if_neg (by simp [decOk, hv])]
      have HD := Lib.hid hd
      have HV := Lib.hid hv'
      clear hv hd hv'
      refine (valid_any _ _ _ _ TV (by omega) (by omega) (by omega) (by omega)).mono ?_
      rintro e w2 ⟨rfl, hb2⟩
      rw [HV.out]
      obtain ⟨g0, g1, g2, gf⟩ := zd3 ((hR.drew.alloc _).below hb2)
      have hs2 := hb2.size
      simp at hs2
      have hB2 : Below w.heap.size w w2 := (hB.drew.alloc (by simp; omega) _).trans (hb2.mono (by simp; omega))
      clear q0 q1 q2 f0 hb2 c0 c1 c2 TV
      go_wp2_with fail
      refine bodyPost_ret (v := .tuple #[handV 0 0 0, .int .i64 6]) (by simp [results, Tryd.results12, go_sem, g0, g1, g2]) rfl ?_
      refine ⟨HD.out.symm, ?_⟩
      exact hB2.setCell (by simp) _ |>.setCell (by simp) _ |>.setCell (by simp) _
  · rw [if_neg h48] at hu
    have HU := Lib.hid hu
    have hd : retD x = retH 0 0 0 6 := by unfold retD; rw [if_neg hx0, if_neg (by simp [decOk, h48])]
    have HD := Lib.hid hd
    clear hu a0 a1 a2 h48 hd hx0
    go_enter Tryd.func12, Tryd.ntmps12
    go_wp2_with fail
    refine (unpack_at x w hT).mono ?_
    rw [HU.out]
    rintro e w1 ⟨A, c, rfl, hr, hB, hR, hs1, T1⟩
    obtain ⟨q0, q1, q2, f0⟩ := zd3 hR
    clear hr
    go_wp2_with fail
    refine bodyPost_ret (v := .tuple #[handV 0 0 0, .int .i64 6]) (by simp [results, Tryd.results12, go_sem, q0, q1, q2]) rfl ?_
    refine ⟨HD.out.symm, ?_⟩
    exact hB.setCell (by simp) _ |>.setCell (by simp) _ |>.setCell (by simp) _
end Go.Proofs.YtfbbipdamkkhcaaDoor

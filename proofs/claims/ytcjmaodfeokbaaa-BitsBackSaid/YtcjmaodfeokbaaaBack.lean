/- Plain laws: Unpack undoes Pack, and Pack undoes Unpack. -/
import Derived.Test.YtcjmaodfeokbaaaKeeps
import Derived.Test.YtcjmaodfeokbaaaUnpack
namespace Go.Proofs.Ytcjmaodfeokbaaa
open Words

/-- packing further fields leaves the bits below as they are -/
theorem packGo_low (l : List (Int × BitVec 64)) (w v : BitVec 64) (i : Int) (h0 : 0 ≤ i) (hok : wOk l (64 - i) = true) (h : packGo l w i = some v) : ∀ k : Nat, (k : Int) < i → v.getLsbD k = w.getLsbD k := by
  induction l generalizing w i with
  | nil => simp only [packGo, Option.some.injEq] at h; subst h; intro k _; rfl
  | cons p r ih =>
    simp only [wOk, Bool.and_eq_true, Bool.not_eq_true', decide_eq_false_iff_not] at hok
    simp only [packGo] at h
    split at h
    · intro k hk
      have := ih (w ||| p.2 <<< i.toNat) (i + p.1) (by omega) (by rw [show 64 - (i + p.1) = 64 - i - p.1 by omega]; exact hok.2) h k (by omega)
      rw [this, BitVec.getLsbD_or, BitVec.getLsbD_shiftLeft]
      have hlt : k < i.toNat := by omega
      simp [hlt]
    · cases h

theorem unGo_pack (l : List (Int × BitVec 64)) (w v : BitVec 64) (i : Int) (h0 : 0 ≤ i) (hw : w >>> i.toNat = 0#64) (hok : wOk l (64 - i) = true) (h : packGo l w i = some v) :
    unGo (l.map (·.1)) (v >>> i.toNat) = (l.map (·.2), 0#64) := by
  induction l generalizing w i with
  | nil => simp only [packGo, Option.some.injEq] at h; subst h; simp [unGo, hw]
  | cons p r ih =>
    have hok0 := hok
    simp only [wOk, Bool.and_eq_true, Bool.not_eq_true', decide_eq_false_iff_not] at hok
    simp only [packGo] at h
    split at h
    · rename_i hfit
      have hfit' : p.2 &&& ~~~ones p.1.toNat = 0#64 := by simpa using hfit
      have hok' : wOk r (64 - (i + p.1)) = true := by rw [show 64 - (i + p.1) = 64 - i - p.1 by omega]; exact hok.2
      have e1 : (i + p.1).toNat = i.toNat + p.1.toNat := by omega
      have hw' : (w ||| p.2 <<< i.toNat) >>> (i + p.1).toNat = 0#64 := by
        apply BitVec.eq_of_getLsbD_eq
        intro k hk
        rw [BitVec.getLsbD_ushiftRight, BitVec.getLsbD_or, BitVec.getLsbD_shiftLeft, BitVec.getLsbD_zero, e1]
        have hz := congrArg (fun b => b.getLsbD (p.1.toNat + k)) hw
        simp only [BitVec.getLsbD_ushiftRight, BitVec.getLsbD_zero] at hz
        rw [← Nat.add_assoc] at hz
        rw [hz, show i.toNat + p.1.toNat + k - i.toNat = p.1.toNat + k by omega, fits_bit hfit' (p.1.toNat + k) (by omega)]
        simp
      have := ih (w ||| p.2 <<< i.toNat) (i + p.1) (by omega) hw' hok' h
      have hlow := packGo_low r _ v (i + p.1) (by omega) hok' h
      have hel : v >>> i.toNat &&& ones p.1.toNat = p.2 := by
        apply BitVec.eq_of_getLsbD_eq
        intro k hk
        rw [BitVec.getLsbD_and, BitVec.getLsbD_ushiftRight, getLsbD_ones]
        by_cases hkp : k < p.1.toNat
        · rw [hlow (i.toNat + k) (by omega), BitVec.getLsbD_or, BitVec.getLsbD_shiftLeft]
          have hz := congrArg (fun b => b.getLsbD k) hw
          simp only [BitVec.getLsbD_ushiftRight, BitVec.getLsbD_zero] at hz
          have h64 : i.toNat + k < 64 := by omega
          have hni : ¬ i.toNat + k < i.toNat := by omega
          rw [hz, show i.toNat + k - i.toNat = k by omega]
          simp only [h64, hni, hkp, hk, decide_true, decide_false, Bool.not_false, Bool.true_and, Bool.and_true, Bool.false_or]
        · rw [fits_bit hfit' k (by omega)]
          simp [hkp]
      simp only [List.map_cons, unGo, hel]
      rw [← BitVec.shiftRight_add, ← e1, this]
    · cases h

theorem unpack_pack (l : List (Int × BitVec 64)) (h : (pack l).2 = 0) : unpack (pack l).1 (l.map (·.1)) = (l.map (·.2), 0) := by
  unfold pack at h ⊢
  split
  · rename_i hok
    rw [if_pos hok] at h
    cases hg : packGo l 0#64 0 with
    | none => rw [hg] at h; cases h
    | some v =>
      have := unGo_pack l 0#64 v 0 (by omega) (by simp) (by simpa using hok) hg
      rw [show (0 : Int).toNat = 0 from rfl, BitVec.ushiftRight_zero] at this
      simp only [packE]
      unfold unpack
      rw [← wOk_map, if_pos hok, this]
      rfl
  · rename_i hok
    rw [if_neg hok] at h
    cases h

theorem packGo_un (ws : List Int) (w : BitVec 64) (i : Int) (h0 : 0 ≤ i) (hok : unOk ws (64 - i) = true) (hz : (unGo ws (w >>> i.toNat)).2 = 0#64) :
    packGo (ws.zip (unGo ws (w >>> i.toNat)).1) (w &&& ones i.toNat) i = some w := by
  induction ws generalizing i with
  | nil =>
    simp only [unGo] at hz
    have hw : w &&& ones i.toNat = w := (fits_iff w (ones i.toNat)).1 (by have := zero_iff w i.toNat; rw [hz] at this; simpa using this)
    simp [packGo, hw]
  | cons x r ih =>
    simp only [unOk, Bool.and_eq_true, Bool.not_eq_true', decide_eq_false_iff_not] at hok
    have e1 : (i + x).toNat = i.toNat + x.toNat := by omega
    have hok' : unOk r (64 - (i + x)) = true := by rw [show 64 - (i + x) = 64 - i - x by omega]; exact hok.2
    simp only [unGo] at hz ⊢
    rw [← BitVec.shiftRight_add, ← e1] at hz ⊢
    have := ih (i + x) (by omega) hok' hz
    have hfit : (w >>> i.toNat &&& ones x.toNat) &&& ~~~ones x.toNat = 0#64 := by rw [BitVec.and_assoc]; simp
    have hacc : w &&& ones i.toNat ||| (w >>> i.toNat &&& ones x.toNat) <<< i.toNat = w &&& ones (i + x).toNat := by
      apply BitVec.eq_of_getLsbD_eq
      intro k hk
      simp only [BitVec.getLsbD_or, BitVec.getLsbD_and, BitVec.getLsbD_shiftLeft, BitVec.getLsbD_ushiftRight, getLsbD_ones, hk, decide_true, Bool.true_and, Bool.and_true]
      by_cases h1 : k < i.toNat
      · have h2 : k < (i + x).toNat := by omega
        simp [h1, h2]
      · have h4 : i.toNat + (k - i.toNat) = k := by omega
        have h5 : k - i.toNat < 64 := by omega
        by_cases h2 : k < (i + x).toNat
        · have h3 : k - i.toNat < x.toNat := by omega
          simp [h1, h2, h3, h4, h5]
        · have h3 : ¬ k - i.toNat < x.toNat := by omega
          simp [h1, h2, h3]
    simp only [List.zip_cons_cons, packGo, hfit, hacc]
    simpa using this

theorem pack_unpack (ws : List Int) (w : BitVec 64) (h : (unpack w ws).2 = 0) : (unpack w ws).1.length = ws.length ∧ pack (ws.zip (unpack w ws).1) = (w, 0) := by
  unfold unpack at h ⊢
  split
  · rename_i hok
    rw [if_pos hok] at h
    split
    · rename_i hz
      have hz' : (unGo ws w).2 = 0#64 := by simpa using hz
      have hlen := unGo_len ws w
      have := packGo_un ws w 0 (by omega) (by simpa using hok) (by simpa using hz')
      rw [show (0 : Int).toNat = 0 from rfl, BitVec.ushiftRight_zero, show ones 0 = 0#64 from rfl, BitVec.and_zero] at this
      refine ⟨hlen, ?_⟩
      have hw : wOk (ws.zip (unGo ws w).1) 64 = true := by
        rw [wOk_map, List.map_fst_zip (by omega)]; exact hok
      unfold pack
      rw [if_pos hw]
      simp only []
      rw [this]
      rfl
    · rename_i hz
      rw [if_neg hz] at h
      cases h
  · rename_i hok
    rw [if_neg hok] at h
    cases h
end Go.Proofs.Ytcjmaodfeokbaaa

/- The plain law: encoding and decoding undo each other. -/
import Derived.Test.YtpmdgmgcbminaaaNcode6
namespace Go.Proofs.Ytpmdgmgcbminaaa
open Go.RowKit Words

theorem U_insW {x : NI} (h : formedI x = true) : U (insW x) = x.op + 256 * x.a + 4096 * x.b + 1048576 * x.c := by
  obtain ⟨ho, ha, hb, hc⟩ := (formedI_iff x).1 h
  exact U_ofInt _ (by omega) (by omega)
theorem insOf_insW {x : NI} (h : formedI x = true) : insOf (insW x) x.k = x := by
  obtain ⟨ho, ha, hb, hc⟩ := (formedI_iff x).1 h
  unfold insOf
  rw [U_insW h]
  obtain ⟨op, a, b, c, k⟩ := x
  dsimp only at ho ha hb hc ⊢
  congr 1 <;> omega
theorem decGo_enc (l : List NI) (h : ∀ x ∈ l, formedI x = true) : decGo (l.flatMap fun x => [insW x, x.k]) = some l := by
  induction l with
  | nil => rfl
  | cons x r ih =>
    have hx := h x List.mem_cons_self
    obtain ⟨ho, ha, hb, hc⟩ := (formedI_iff x).1 hx
    rw [List.flatMap_cons, List.cons_append, List.cons_append, List.nil_append, decGo, if_pos (by rw [U_insW hx]; omega), ih (fun y hy => h y (List.mem_cons_of_mem _ hy)), insOf_insW hx]
    rfl
theorem decC_encL {g : Int} {l : List NI} (h : formedC g l = true) : decC (encL g l) = (g, l, 0) := by
  obtain ⟨⟨g0, g1⟩, hn, hall⟩ := formedC_parts h
  have hl := encL_len g l
  unfold encL at hl ⊢
  unfold decC
  dsimp only
  have ug : U (BitVec.ofInt 64 g) = g := U_ofInt g (by omega) (by omega)
  rw [if_pos ⟨by rw [hl]; omega, by rw [ug]; exact g1⟩, decGo_enc l hall]
  dsimp only
  rw [ug, if_pos h]
theorem insW_insOf {w k : BitVec 64} (h : U w < 16777216) : insW (insOf w k) = w := by
  have h0 := U_nonneg w
  apply U_inj
  unfold insW insOf
  dsimp only
  rw [U_ofInt _ (by omega) (by omega)]
  omega
theorem enc_decGo (n : Nat) : ∀ (l : List (BitVec 64)) (is : List NI), l.length ≤ n → l.length % 2 = 0 → decGo l = some is → (is.flatMap fun x => [insW x, x.k]) = l := by
  induction n with
  | zero =>
    intro l is hl _ h
    obtain rfl : l = [] := List.eq_nil_of_length_eq_zero (by omega)
    obtain rfl : [] = is := Option.some.inj h
    rfl
  | succ n ih =>
    intro l is hl he h
    rcases l with _ | ⟨w, _ | ⟨k, r⟩⟩
    · obtain rfl : [] = is := Option.some.inj h
      rfl
    · simp at he
    · rw [decGo] at h
      by_cases h24 : U w < 16777216
      · rw [if_pos h24] at h
        cases hd : decGo r with
        | none => rw [hd] at h; cases h
        | some z =>
          rw [hd] at h
          obtain rfl : insOf w k :: z = is := Option.some.inj h
          simp only [List.length_cons] at hl he
          rw [List.flatMap_cons, ih r z (by omega) (by omega) hd, insW_insOf h24]
          rfl
      · rw [if_neg h24] at h
        cases h
/-- words that are decoded are those of their program; else the program is empty -/
theorem enc_decC (l : List (BitVec 64)) : (∃ g is, decC l = (g, is, 0) ∧ encC g is = (l, 0)) ∨ decC l = (0, [], 21) := by
  cases l with
  | nil => right; rfl
  | cons w r =>
    unfold decC
    dsimp only
    by_cases hc : (w :: r).length % 2 = 1 ∧ U w ≤ 3
    · rw [if_pos hc]
      cases hd : decGo r with
      | none => right; rfl
      | some z =>
        dsimp only
        by_cases hf : formedC (U w) z = true
        · left
          rw [if_pos hf]
          refine ⟨_, _, rfl, ?_⟩
          unfold encC
          rw [if_pos hf]
          unfold encL
          have hl := hc.1
          rw [List.length_cons] at hl
          rw [enc_decGo r.length r z (Nat.le_refl _) (by omega) hd, ofInt_U]
        · right
          rw [if_neg hf]
    · right
      rw [if_neg hc]
end Go.Proofs.Ytpmdgmgcbminaaa

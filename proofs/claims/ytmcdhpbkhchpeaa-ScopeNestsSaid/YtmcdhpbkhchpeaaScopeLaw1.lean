/- The plain law of local handles: what validity says, entry by entry. No program in sight. -/
import Derived.Test.YtmcdhpbkhchpeaaScope15
namespace Go.Proofs.Ytmcdhpbkhchpeaa
open Go.RowKit Words

theorem nestGo_iff (ns : Nat) (P : List Sc) : ∀ (f : Int) (b : Bool), nestGo ns P f b = true ↔
    (∀ q, P[0]? = some q → f ≤ q.from_ ∧ (b = true → q.from_ = 0 ∧ q.base = true)) ∧ (∀ (k : Nat) (q : Sc), P[k]? = some q → q.from_ ≤ ns ∧ 0 ≤ q.cap ∧ q.cap ≤ 64 ∧ ∀ q', P[k + 1]? = some q' → q.from_ ≤ q'.from_) := by
  induction P with
  | nil => intro f b; simp [nestGo]
  | cons s r ih =>
    intro f b
    rw [nestGo]
    constructor
    · intro h
      split at h
      · cases h
      · rename_i hn
        obtain ⟨h1, h2⟩ := (ih s.from_ false).1 h
        have hn1 := fun e => hn (Or.inr (Or.inl e))
        have hn2 := fun e => hn (Or.inr (Or.inr (Or.inl e)))
        have hn3 := fun e => hn (Or.inr (Or.inr (Or.inr (Or.inl e))))
        have hn4 := fun e => hn (Or.inr (Or.inr (Or.inr (Or.inr e))))
        refine ⟨fun q hq => ?_, fun k q hq => ?_⟩
        · simp at hq; subst hq
          refine ⟨by omega, fun hb => ?_⟩
          have h0 : ¬ (s.from_ ≠ 0 ∨ s.base = false) := fun e => hn (Or.inl ⟨hb, e⟩)
          refine ⟨Decidable.not_not.1 (fun e => h0 (Or.inl e)), ?_⟩
          cases hbb : s.base
          · exact absurd (Or.inr hbb) h0
          · rfl
        · cases k with
          | zero =>
            simp at hq; subst hq
            refine ⟨by omega, by omega, by omega, fun q' hq' => ?_⟩
            simp at hq'
            exact (h1 q' (by simpa using hq')).1
          | succ k => exact h2 k q (by simpa using hq) |>.imp id (fun h => ⟨h.1, h.2.1, fun q' hq' => h.2.2 q' (by simpa using hq')⟩)
    · rintro ⟨h1, h2⟩
      obtain ⟨e1, e2⟩ := h1 s (by simp)
      obtain ⟨e3, e4, e5, e6⟩ := h2 0 s (by simp)
      rw [if_neg]
      · refine (ih s.from_ false).2 ⟨fun q hq => ⟨e6 q (by simpa using hq), fun h => by cases h⟩, fun k q hq => ?_⟩
        obtain ⟨z1, z2, z3, z4⟩ := h2 (k + 1) q (by simpa using hq)
        exact ⟨z1, z2, z3, fun q' hq' => z4 q' (by simpa using hq')⟩
      · rintro (⟨hb, h | h⟩ | h | h | h | h)
        · exact h (e2 hb).1
        · rw [(e2 hb).2] at h; cases h
        · omega
        · omega
        · omega
        · omega
theorem stampGo_iff (I : List Int) (S : List Sl) : ∀ (i : Nat) (last : Int), stampGo I S i last = true ↔
    (∀ s, S[0]? = some s → last < s.stamp) ∧ (∀ (j : Nat) (s : Sl), S[j]? = some s → s.stamp ≤ I.length ∧ I[(s.stamp - 1).toNat]? = some ((i + j : Nat) : Int) ∧ s.live = !(s.ref == 0#64) ∧ ∀ s', S[j + 1]? = some s' → s.stamp < s'.stamp) := by
  induction S with
  | nil => intro i last; simp [stampGo]
  | cons s r ih =>
    intro i last
    rw [stampGo]
    constructor
    · intro h
      split at h
      · cases h
      · rename_i hn
        obtain ⟨h1, h2⟩ := (ih (i + 1) s.stamp).1 h
        have hn1 := fun e => hn (Or.inl e)
        have hn2 := fun e => hn (Or.inr (Or.inl e))
        have hn3 := fun e => hn (Or.inr (Or.inr (Or.inl e)))
        have hn4 := fun e => hn (Or.inr (Or.inr (Or.inr e)))
        refine ⟨fun q hq => by simp at hq; subst hq; omega, fun j q hq => ?_⟩
        cases j with
        | zero =>
          simp at hq; subst hq
          refine ⟨by omega, Decidable.not_not.1 hn3, ?_, fun q' hq' => h1 q' (by simpa using hq')⟩
          cases hl : s.live <;> cases hr : (s.ref == 0#64) <;> simp_all
        | succ j =>
          obtain ⟨z1, z2, z3, z4⟩ := h2 j q (by simpa using hq)
          exact ⟨z1, by rw [z2]; congr 2; omega, z3, fun q' hq' => z4 q' (by simpa using hq')⟩
    · rintro ⟨h1, h2⟩
      have e1 := h1 s (by simp)
      obtain ⟨e3, e4, e5, e6⟩ := h2 0 s (by simp)
      rw [if_neg]
      · refine (ih (i + 1) s.stamp).2 ⟨fun q hq => e6 q (by simpa using hq), fun j q hq => ?_⟩
        obtain ⟨z1, z2, z3, z4⟩ := h2 (j + 1) q (by simpa using hq)
        exact ⟨z1, by rw [z2]; congr 2; omega, z3, fun q' hq' => z4 q' (by simpa using hq')⟩
      · rintro (h | h | h | h)
        · omega
        · omega
        · exact h (by simpa using e4)
        · rw [e5] at h; cases hr : (s.ref == 0#64) <;> rw [hr] at h <;> cases h
/-- validity, entry by entry -/
structure VL (x : Lc) : Prop where
  il : x.i.length ≤ 4096
  iv : ∀ v ∈ x.i, 0 ≤ v ∧ v < 4096
  pl : x.p.length ≤ 64
  pe : x.p.length = 0 → x.s.length = 0
  first : ∀ q, x.p[0]? = some q → q.from_ = 0 ∧ q.base = true
  sc : ∀ (k : Nat) (q : Sc), x.p[k]? = some q → q.from_ ≤ x.s.length ∧ 0 ≤ q.cap ∧ q.cap ≤ 64 ∧ ∀ q', x.p[k + 1]? = some q' → q.from_ ≤ q'.from_
  low : ∀ s, x.s[0]? = some s → 0 < s.stamp
  sl : ∀ (j : Nat) (s : Sl), x.s[j]? = some s → s.stamp ≤ x.i.length ∧ x.i[(s.stamp - 1).toNat]? = some (j : Int) ∧ s.live = !(s.ref == 0#64) ∧ ∀ s', x.s[j + 1]? = some s' → s.stamp < s'.stamp
  room : ∀ (k : Nat) (q : Sc), x.p[k]? = some q → (liveAt x.s x.p k : Int) ≤ q.cap
theorem valid_VL (x : Lc) : x.valid = true ↔ VL x := by
  obtain ⟨S, P, I⟩ := x
  unfold Lc.valid validL issB nestedB roomB
  simp only [Bool.and_eq_true, decide_eq_true_eq, Bool.not_eq_true', List.any_eq_false, List.all_eq_true, List.mem_range]
  constructor
  · rintro ⟨⟨h1, h2⟩, h3, h4, h5⟩
    split at h3
    · cases h3
    · rename_i hn
      have hn1 := fun e => hn (Or.inl e)
      have hn2 := fun e => hn (Or.inr e)
      obtain ⟨z1, z2⟩ := (nestGo_iff _ _ _ _).1 h3
      obtain ⟨y1, y2⟩ := (stampGo_iff _ _ _ _).1 h4
      refine ⟨h1, fun v hv => ?_, by dsimp only; omega, fun e => ?_, fun q hq => (z1 q hq).2 rfl, z2, y1, fun j s hs => ?_, fun k q hq => ?_⟩
      · have := h2 v hv
        unfold badIss at this
        simp at this
        omega
      · exact Nat.eq_zero_of_not_pos (fun e' => hn2 ⟨e, e'⟩)
      · obtain ⟨w1, w2, w3, w4⟩ := y2 j s hs
        exact ⟨w1, by rw [w2]; congr 2; omega, w3, w4⟩
      · have := h5 k (List.getElem?_eq_some_iff.1 hq).1
        unfold roomK at this
        rw [hq] at this
        simpa using this
  · intro h
    refine ⟨⟨h.il, fun v hv => ?_⟩, ?_, (stampGo_iff _ _ _ _).2 ⟨h.low, fun j s hs => ?_⟩, fun k hk => ?_⟩
    · have := h.iv v hv
      unfold badIss
      simp
      omega
    · rw [if_neg]
      · refine (nestGo_iff _ _ _ _).2 ⟨fun q hq => ?_, h.sc⟩
        obtain ⟨e1, e2⟩ := h.first q hq
        exact ⟨by omega, fun _ => ⟨e1, e2⟩⟩
      · rintro (e | ⟨e1, e2⟩)
        · have := h.pl; dsimp only at this; omega
        · have := h.pe e1; dsimp only at this; omega
    · obtain ⟨w1, w2, w3, w4⟩ := h.sl j s hs
      exact ⟨w1, by rw [w2]; congr 2; omega, w3, w4⟩
    · unfold roomK
      cases hq : P[k]? with
      | none => rfl
      | some q => simpa using h.room k q hq
end Go.Proofs.Ytmcdhpbkhchpeaa

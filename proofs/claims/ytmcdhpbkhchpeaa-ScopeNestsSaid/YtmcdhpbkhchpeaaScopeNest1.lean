/- The plain law of ScopeNests: closing a scope brings back what was there. No program in sight. -/
import Derived.Test.YtmcdhpbkhchpeaaScopeLaw4
namespace Go.Proofs.Ytmcdhpbkhchpeaa
open Go.RowKit Words

/-- y is x with one more scope, and some more handles in it -/
structure Nest (x y : Lc) : Prop where
  v : VL y
  shape : ∃ (c : Int) (e : List Sl) (ext : List Int), y = ⟨x.s ++ e, x.p ++ [⟨x.s.length, c, false⟩], x.i ++ ext⟩
theorem open_ways {x : Lc} (hv : x.valid = true) {c : Int} (h0 : 0 ≤ c) (h1 : c ≤ 64) : ((openL x c false).2 = 9 ∨ (openL x c false).2 = 17) ∨ ((openL x c false).2 = 0 ∧ Nest x (openL x c false).1) := by
  have ha : ¬ (x.valid = false ∨ c < 0 ∨ 64 < c) := by
    rintro (e | e | e)
    · rw [hv] at e; cases e
    · omega
    · omega
  by_cases h2 : false = false ∧ x.p.length = 0
  · rw [openL_scope ha h2]; exact Or.inl (Or.inl rfl)
  by_cases h3 : 64 ≤ x.p.length
  · rw [openL_depth ha h2 h3]; exact Or.inl (Or.inr rfl)
  refine Or.inr ?_
  have hV := ((valid_VL x).1 hv).open (c := c) (b := false) h0 h1 h2 (by omega)
  rw [openL_ok ha h2 h3]
  exact ⟨rfl, hV, c, [], [], by simp⟩
theorem Nest.new {x y : Lc} (h : Nest x y) {r : BitVec 64} (he : (newL y r).2.2.2 = 0) : Nest x (newL y r).1 := by
  by_cases h1 : y.valid = false ∨ r = 0#64
  · rw [newL_arg h1] at he; cases he
  by_cases h2 : y.p.length = 0
  · rw [newL_scope h1 h2] at he; cases he
  by_cases h3 : fullL y = true
  · rw [newL_cap h1 h2 h3] at he; cases he
  by_cases h4 : 4096 ≤ y.i.length
  · rw [newL_full h1 h2 h3 h4] at he; cases he
  rw [newL_ok h1 h2 h3 h4]
  refine ⟨h.v.new (fun e => h1 (Or.inr e)) h2 h3 h4, ?_⟩
  obtain ⟨c, e, ext, rfl⟩ := h.shape
  refine ⟨c, e ++ [⟨((x.i ++ ext).length : Int) + 1, r, true⟩], ext ++ [((x.s ++ e).length : Int)], ?_⟩
  dsimp only
  rw [List.append_assoc, List.append_assoc]
/-- what was there comes back -/
structure Back (x y : Lc) : Prop where
  v : VL y
  s : y.s = x.s
  p : y.p = x.p
  i : ∃ ext, y.i = x.i ++ ext
theorem Nest.pop {x y : Lc} (h : Nest x y) : (popL y).2 = 0 ∧ Back x (popL y).1 := by
  have hv : y.valid = true := (valid_VL y).2 h.v
  have hV := h.v
  obtain ⟨c, e, ext, rfl⟩ := h.shape
  have hq : (x.p ++ [(⟨x.s.length, c, false⟩ : Sc)])[(x.p ++ [(⟨x.s.length, c, false⟩ : Sc)]).length - 1]? = some ⟨x.s.length, c, false⟩ := by simp
  have hc := hV.cut hq
  rw [popL_ok hv hq rfl]
  dsimp only at hc
  refine ⟨rfl, hc, ?_, ?_, ext, rfl⟩
  · simp
  · simp
theorem Back.get {x y : Lc} {is : List Iss} (h : Good x is) (hb : Back x y) {k : Nat} {g : Iss} (hg : is[k]? = some g) : getL y g.at_ g.stamp = getL x g.at_ g.stamp := by
  obtain ⟨h1, h2⟩ := h.iss k g hg
  have hk := (List.getElem?_eq_some_iff.1 h2).1
  have hv := h.valid
  have hvy : y.valid = true := (valid_VL y).2 hb.v
  obtain ⟨ext, hi⟩ := hb.i
  have hnf : ¬ (g.stamp < 1 ∨ (x.i.length : Int) < g.stamp ∨ x.i[(g.stamp - 1).toNat]? ≠ some g.at_) := by
    rintro (e | e | e)
    · omega
    · omega
    · apply e
      rw [show (g.stamp - 1).toNat = k by omega]; exact h2
  have hnfy : ¬ (g.stamp < 1 ∨ (y.i.length : Int) < g.stamp ∨ y.i[(g.stamp - 1).toNat]? ≠ some g.at_) := by
    rw [hi]
    rintro (e | e | e)
    · omega
    · rw [List.length_append] at e; omega
    · apply e
      rw [show (g.stamp - 1).toNat = k by omega, List.getElem?_append_left hk]; exact h2
  cases hs : x.s[g.at_.toNat]? with
  | none => rw [getL_far hv hnf hs, getL_far hvy hnfy (by rw [hb.s]; exact hs)]
  | some s => rw [getL_at hv hnf hs, getL_at hvy hnfy (by rw [hb.s]; exact hs)]
theorem VL.lens {x : Lc} (h : VL x) : x.s.length ≤ 1000000 ∧ x.p.length ≤ 1000000 ∧ x.i.length ≤ 1000000 := by
  have h1 := h.len
  have h2 := h.il
  have h3 := h.pl
  omega
end Go.Proofs.Ytmcdhpbkhchpeaa

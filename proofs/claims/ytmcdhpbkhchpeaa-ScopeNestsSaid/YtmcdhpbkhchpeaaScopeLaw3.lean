/- The plain law of local handles: the life of handles in any history. No program in sight. -/
import Derived.Test.YtmcdhpbkhchpeaaScopeLaw2
import Derived.Test.YtmcdhpbkhchpeaaScope23
namespace Go.Proofs.Ytmcdhpbkhchpeaa
open Go.RowKit Words

theorem seg_app (S : List Sl) (y : Sl) (a b : Nat) (hb : b ≤ S.length) : seg (S ++ [y]) a b = seg S a b := by
  unfold seg
  by_cases ha : a ≤ S.length
  · rw [List.drop_append_of_le_length ha, List.take_append_of_le_length (by rw [List.length_drop]; omega)]
  · rw [show b - a = 0 by omega]; simp
theorem seg_app_end (S : List Sl) (y : Sl) (a : Nat) (ha : a ≤ S.length) : seg (S ++ [y]) a (S.length + 1) = seg S a S.length ++ [y] := by
  unfold seg
  rw [List.drop_append_of_le_length ha, List.take_of_length_le (by rw [List.length_append, List.length_drop]; simp; omega), List.take_of_length_le (by rw [List.length_drop]; omega)]
/-- a handle is made -/
theorem VL.new {x : Lc} (h : VL x) {r : BitVec 64} (hr : r ≠ 0#64) (hp : ¬ x.p.length = 0) (hf : ¬ fullL x = true) (hi : ¬ 4096 ≤ x.i.length) : VL ⟨x.s ++ [⟨x.i.length + 1, r, true⟩], x.p, x.i ++ [(x.s.length : Int)]⟩ := by
  have hln := h.len
  have hsat : ∀ (j : Nat) (s : Sl), (x.s ++ [(⟨x.i.length + 1, r, true⟩ : Sl)])[j]? = some s → x.s[j]? = some s ∨ (j = x.s.length ∧ s = ⟨x.i.length + 1, r, true⟩) := by
    intro k q hq
    rw [List.getElem?_append] at hq
    split at hq
    · exact Or.inl hq
    · right
      have hk' : k = x.s.length := by
        by_cases e : k - x.s.length = 0
        · omega
        · rw [List.getElem?_eq_none (by simp; omega)] at hq; cases hq
      subst hk'
      rw [Nat.sub_self] at hq
      exact ⟨rfl, by simpa using hq.symm⟩
  refine ⟨by simp; omega, fun v hv => ?_, h.pl, fun e => absurd e hp, h.first, fun k q hq => ?_, fun s hs => ?_, fun j s hs => ?_, fun k q hq => ?_⟩
  · rcases List.mem_append.1 hv with hv | hv
    · exact h.iv v hv
    · rw [List.mem_singleton] at hv; omega
  · obtain ⟨z1, z2, z3, z4⟩ := h.sc k q hq
    exact ⟨by simp; omega, z2, z3, z4⟩
  · rcases hsat 0 s hs with hs | ⟨_, rfl⟩
    · exact h.low s hs
    · dsimp only; omega
  · dsimp only
    rcases hsat j s hs with hs1 | ⟨e, rfl⟩
    · obtain ⟨z1, z2, z3, z4⟩ := h.sl j s hs1
      refine ⟨by simp; omega, ?_, z3, fun s' hs' => ?_⟩
      · have hlt := (List.getElem?_eq_some_iff.1 z2).1
        rw [List.getElem?_append_left hlt]; exact z2
      · rcases hsat (j + 1) s' hs' with hs2 | ⟨_, rfl⟩
        · exact z4 s' hs2
        · dsimp only; omega
    · subst e
      refine ⟨by simp, ?_, by simp [hr], fun s' hs' => ?_⟩
      · dsimp only
        rw [show ((x.i.length : Int) + 1 - 1).toNat = x.i.length by omega, List.getElem?_append_right (Nat.le_refl _), Nat.sub_self]
        rfl
      · rw [List.getElem?_eq_none (by simp)] at hs'; cases hs'
  · dsimp only at hq ⊢
    have hroom := h.room k q hq
    have hlt := (List.getElem?_eq_some_iff.1 hq).1
    have hfr := (h.sc k q hq).1
    have hnn := h.from_nn hq
    by_cases hk : k + 1 < x.p.length
    · have hm : x.p[k + 1]? = some x.p[k + 1] := List.getElem?_eq_getElem hk
      have hto := (h.sc _ _ hm).1
      have : liveAt (x.s ++ [(⟨x.i.length + 1, r, true⟩ : Sl)]) x.p k = liveAt x.s x.p k := by
        unfold liveAt toN
        rw [hq, hm]
        dsimp only
        rw [seg_app _ _ _ _ (by omega)]
      rw [this]; exact hroom
    · have hk' : x.p.length - 1 = k := by omega
      have hnone : x.p[k + 1]? = none := List.getElem?_eq_none (by omega)
      have hlive : liveAt (x.s ++ [(⟨x.i.length + 1, r, true⟩ : Sl)]) x.p k = liveAt x.s x.p k + 1 := by
        unfold liveAt toN
        rw [hq, hnone]
        dsimp only
        rw [List.length_append, List.length_singleton, seg_app_end _ _ _ (by omega)]
        unfold cntLive
        rw [List.countP_append]
        rfl
      have hlt2 : ¬ q.cap ≤ (liveAt x.s x.p k : Int) := by
        intro e
        apply hf
        simp only [fullL, hk', hq]
        exact decide_eq_true e
      rw [hlive]; omega

/-- an issued handle -/
structure Iss where
  at_ : Int
  stamp : Int
  ref : BitVec 64
/-- local handles, and all handles that were issued -/
structure Good (x : Lc) (is : List Iss) : Prop where
  v : VL x
  len : is.length = x.i.length
  iss : ∀ (k : Nat) (h : Iss), is[k]? = some h → h.stamp = (k : Int) + 1 ∧ x.i[k]? = some h.at_
  ref : ∀ (j : Nat) (s : Sl), x.s[j]? = some s → s.live = true → ∃ h, is[(s.stamp - 1).toNat]? = some h ∧ h.ref = s.ref
theorem Good.valid {x : Lc} {is : List Iss} (h : Good x is) : x.valid = true := (valid_VL x).2 h.v
theorem Good.start : Good Lc.nil [] := ⟨(valid_VL _).1 (by decide), rfl, (fun k h e => by simp at e), (fun j s e => by simp [Lc.nil] at e)⟩
theorem Good.openE {x : Lc} {is : List Iss} (h : Good x is) {c : Int} {b : Bool} (he : (openL x c b).2 = 0) : Good (openL x c b).1 is := by
  unfold openL at he ⊢
  split at he
  · cases he
  · rename_i h1
    split at he
    · cases he
    · rename_i h2
      split at he
      · cases he
      · rename_i h3
        rw [if_neg h1, if_neg h2, if_neg h3]
        have a1 := fun e => h1 (Or.inr (Or.inl e))
        have a2 := fun e => h1 (Or.inr (Or.inr e))
        exact ⟨h.v.open (by omega) (by omega) h2 (by omega), h.len, h.iss, h.ref⟩
theorem Good.cut {x : Lc} {is : List Iss} (h : Good x is) {k : Nat} {q : Sc} (hq : x.p[k]? = some q) : Good (cutL x k) is := by
  unfold cutL
  rw [hq]
  refine ⟨h.v.cut hq, h.len, h.iss, fun j s hs hl => ?_⟩
  dsimp only at hs
  rw [List.getElem?_take] at hs
  split at hs
  · exact h.ref j s hs hl
  · cases hs
theorem Good.popE {x : Lc} {is : List Iss} (h : Good x is) (he : (popL x).2 = 0) : Good (popL x).1 is := by
  have hv := h.valid
  cases hq : x.p[x.p.length - 1]? with
  | none => rw [popL_none hv hq] at he; cases he
  | some q =>
    cases hb : q.base with
    | true => rw [popL_base hv hq hb] at he; cases he
    | false =>
      have : popL x = (cutL x (x.p.length - 1), 0) := by rw [popL_ok hv hq hb]; unfold cutL; rw [hq]
      rw [this]
      exact h.cut hq
theorem Good.leaveE {x : Lc} {is : List Iss} (h : Good x is) (he : (leaveL x).2 = 0) : Good (leaveL x).1 is := by
  have hv := h.valid
  unfold leaveL at he ⊢
  rw [if_neg (by rw [hv]; decide)] at he ⊢
  split at he
  · cases he
  · rename_i k hk
    exact h.cut (scAt_some x.p k)
theorem Good.delE {x : Lc} {is : List Iss} (h : Good x is) {i t : Int} (he : (delL x i t).2 = 0) : Good (delL x i t).1 is := by
  have hg : (getL x i t).2 = 0 := by
    unfold delL at he
    split at he
    · assumption
    · exact absurd he (by assumption)
  obtain ⟨k, s, rfl, hs, rfl, hl, -, -⟩ := getL_ok hg
  rw [delL_ok hg, Int.toNat_natCast]
  refine ⟨h.v.del hs, h.len, h.iss, fun j r hr hl' => ?_⟩
  dsimp only at hr
  by_cases hj : j = k
  · subst hj
    rw [List.getElem?_set_self (List.getElem?_eq_some_iff.1 hs).1] at hr
    obtain rfl := Option.some.inj hr
    cases hl'
  · rw [List.getElem?_set_ne (fun e => hj e.symm)] at hr
    exact h.ref j r hr hl'
theorem Good.newE {x : Lc} {is : List Iss} (h : Good x is) {r : BitVec 64} (he : (newL x r).2.2.2 = 0) : Good (newL x r).1 (is ++ [⟨(newL x r).2.1, (newL x r).2.2.1, r⟩]) := by
  by_cases h1 : x.valid = false ∨ r = 0#64
  · rw [newL_arg h1] at he; cases he
  by_cases h2 : x.p.length = 0
  · rw [newL_scope h1 h2] at he; cases he
  by_cases h3 : fullL x = true
  · rw [newL_cap h1 h2 h3] at he; cases he
  by_cases h4 : 4096 ≤ x.i.length
  · rw [newL_full h1 h2 h3 h4] at he; cases he
  rw [newL_ok h1 h2 h3 h4]
  have hln := h.len
  refine ⟨h.v.new (fun e => h1 (Or.inr e)) h2 h3 h4, by simp [hln], fun k g hg => ?_, fun j s hs hl => ?_⟩
  · dsimp only at hg ⊢
    rw [List.getElem?_append] at hg
    split at hg
    · rename_i hk
      obtain ⟨z1, z2⟩ := h.iss k g hg
      refine ⟨z1, ?_⟩
      rw [List.getElem?_append_left (by omega)]; exact z2
    · rename_i hk
      have hk' : k = is.length := by
        by_cases e : k - is.length = 0
        · omega
        · rw [List.getElem?_eq_none (by simp; omega)] at hg; cases hg
      subst hk'
      rw [Nat.sub_self] at hg
      have hg' : (⟨(x.s.length : Int), (x.i.length : Int) + 1, r⟩ : Iss) = g := by simpa using hg
      subst hg'
      dsimp only
      refine ⟨by omega, ?_⟩
      rw [hln, List.getElem?_append_right (Nat.le_refl _), Nat.sub_self]; rfl
  · dsimp only at hs
    rw [List.getElem?_append] at hs
    split at hs
    · obtain ⟨g, hg, hgr⟩ := h.ref j s hs hl
      refine ⟨g, ?_, hgr⟩
      rw [List.getElem?_append_left (List.getElem?_eq_some_iff.1 hg).1]; exact hg
    · rename_i hj
      have hj' : j - x.s.length = 0 := by
        by_cases e : j - x.s.length = 0
        · exact e
        · rw [List.getElem?_eq_none (by simp; omega)] at hs; cases hs
      rw [hj'] at hs
      have hs' : (⟨(x.i.length : Int) + 1, r, true⟩ : Sl) = s := by simpa using hs
      subst hs'
      dsimp only
      refine ⟨⟨(x.s.length : Int), (x.i.length : Int) + 1, r⟩, ?_, rfl⟩
      rw [show ((x.i.length : Int) + 1 - 1).toNat = is.length by omega, List.getElem?_append_right (Nat.le_refl _), Nat.sub_self]; rfl
/-- what Get says of an issued handle -/
theorem Good.get {x : Lc} {is : List Iss} (h : Good x is) {k : Nat} {g : Iss} (hg : is[k]? = some g) : getL x g.at_ g.stamp = (g.ref, 0) ∨ getL x g.at_ g.stamp = (0#64, 7) ∨ getL x g.at_ g.stamp = (0#64, 8) := by
  obtain ⟨h1, h2⟩ := h.iss k g hg
  have hk := (List.getElem?_eq_some_iff.1 h2).1
  have hv := h.valid
  have hnf : ¬ (g.stamp < 1 ∨ (x.i.length : Int) < g.stamp ∨ x.i[(g.stamp - 1).toNat]? ≠ some g.at_) := by
    rintro (e | e | e)
    · omega
    · omega
    · apply e
      rw [show (g.stamp - 1).toNat = k by omega]; exact h2
  cases hs : x.s[g.at_.toNat]? with
  | none => right; left; exact getL_far hv hnf hs
  | some s =>
    rw [getL_at hv hnf hs]
    by_cases hst : s.stamp = g.stamp
    · rw [if_neg (fun e => e hst)]
      cases hl : s.live with
      | false => right; right; rfl
      | true =>
        left
        obtain ⟨g', hg', hr⟩ := h.ref _ s hs hl
        rw [show (s.stamp - 1).toNat = k by omega, hg] at hg'
        obtain rfl := Option.some.inj hg'
        rw [hr]; rfl
    · right; left; exact if_pos hst
theorem Good.forged {x : Lc} {is : List Iss} (h : Good x is) {i t : Int} (hn : ∀ g ∈ is, ¬ (g.at_ = i ∧ g.stamp = t)) : getL x i t = (0#64, 6) := by
  refine getL_forged h.valid ?_
  by_cases h1 : t < 1
  · exact Or.inl h1
  by_cases h2 : (x.i.length : Int) < t
  · exact Or.inr (Or.inl h2)
  right; right
  intro e
  have hk : (t - 1).toNat < is.length := by rw [h.len]; omega
  have hg : is[(t - 1).toNat]? = some is[(t - 1).toNat] := List.getElem?_eq_getElem hk
  obtain ⟨z1, z2⟩ := h.iss _ _ hg
  rw [e] at z2
  exact hn _ (List.getElem_mem hk) ⟨(Option.some.inj z2).symm, by omega⟩
theorem Good.apart {x : Lc} {is : List Iss} (h : Good x is) {a b : Nat} {g g' : Iss} (ha : is[a]? = some g) (hb : is[b]? = some g') (hs : g.stamp = g'.stamp) : a = b := by
  have h1 := (h.iss a g ha).1
  have h2 := (h.iss b g' hb).1
  omega
end Go.Proofs.Ytmcdhpbkhchpeaa

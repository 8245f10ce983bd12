/- The plain law of local handles: validity is kept. No program in sight. -/
import Derived.Test.YtmcdhpbkhchpeaaScopeLaw1
import Derived.Test.YtmcdhpbkhchpeaaScope12
namespace Go.Proofs.Ytmcdhpbkhchpeaa
open Go.RowKit Words

theorem VL.stamp_gt {x : Lc} (h : VL x) : ∀ (j : Nat) (s : Sl), x.s[j]? = some s → (j : Int) < s.stamp := by
  intro j
  induction j with
  | zero => intro s hs; have := h.low s hs; omega
  | succ j ih =>
    intro s hs
    have hlt := (List.getElem?_eq_some_iff.1 hs).1
    have hj : x.s[j]? = some x.s[j] := List.getElem?_eq_getElem (by omega)
    have h1 := ih _ hj
    have h2 := (h.sl j _ hj).2.2.2 s hs
    omega
theorem VL.len {x : Lc} (h : VL x) : x.s.length ≤ x.i.length := by
  by_cases h0 : x.s.length = 0
  · omega
  · have hj : x.s[x.s.length - 1]? = some x.s[x.s.length - 1] := List.getElem?_eq_getElem (by omega)
    have h1 := h.stamp_gt _ _ hj
    have h2 := (h.sl _ _ hj).1
    omega
theorem VL.stamp_mono {x : Lc} (h : VL x) (j d : Nat) (s s' : Sl) (hs : x.s[j]? = some s) (hs' : x.s[j + d + 1]? = some s') : s.stamp < s'.stamp := by
  induction d generalizing s' with
  | zero => exact (h.sl j s hs).2.2.2 s' hs'
  | succ d ih =>
    have hlt := (List.getElem?_eq_some_iff.1 hs').1
    have hm : x.s[j + d + 1]? = some x.s[j + d + 1] := List.getElem?_eq_getElem (by omega)
    have h1 := ih _ hm
    have h2 := (h.sl _ _ hm).2.2.2 s' hs'
    omega
theorem VL.from_mono {x : Lc} (h : VL x) (k d : Nat) (q q' : Sc) (hq : x.p[k]? = some q) (hq' : x.p[k + d]? = some q') : q.from_ ≤ q'.from_ := by
  induction d generalizing q' with
  | zero => rw [Nat.add_zero, hq] at hq'; obtain rfl := Option.some.inj hq'; exact Int.le_refl _
  | succ d ih =>
    have hlt := (List.getElem?_eq_some_iff.1 hq').1
    have hm : x.p[k + d]? = some x.p[k + d] := List.getElem?_eq_getElem (by omega)
    have h1 := ih _ hm
    have h2 := (h.sc _ _ hm).2.2.2 q' hq'
    omega
theorem VL.from_nn {x : Lc} (h : VL x) {k : Nat} {q : Sc} (hq : x.p[k]? = some q) : 0 ≤ q.from_ := by
  have hlt := (List.getElem?_eq_some_iff.1 hq).1
  have h0 : x.p[0]? = some x.p[0] := List.getElem?_eq_getElem (by omega)
  have h1 := h.from_mono 0 k _ q h0 (by rw [Nat.zero_add]; exact hq)
  have h2 := (h.first _ h0).1
  omega

/-- a scope is opened -/
theorem VL.open {x : Lc} (h : VL x) {c : Int} {b : Bool} (hc0 : 0 ≤ c) (hc1 : c ≤ 64) (hb : ¬ (b = false ∧ x.p.length = 0)) (hp : x.p.length < 64) : VL ⟨x.s, x.p ++ [⟨x.s.length, c, b⟩], x.i⟩ := by
  have hat : ∀ (k : Nat) (q : Sc), (x.p ++ [(⟨x.s.length, c, b⟩ : Sc)])[k]? = some q → x.p[k]? = some q ∨ (k = x.p.length ∧ q = ⟨x.s.length, c, b⟩) := by
    intro k q hq
    rw [List.getElem?_append] at hq
    split at hq
    · exact Or.inl hq
    · rename_i hk
      right
      have hk' : k = x.p.length := by
        by_cases e : k - x.p.length = 0
        · omega
        · rw [List.getElem?_eq_none (by simp; omega)] at hq; cases hq
      subst hk'
      rw [Nat.sub_self] at hq
      exact ⟨rfl, by simpa using hq.symm⟩
  refine ⟨h.il, h.iv, by simp; omega, by simp, fun q hq => ?_, fun k q hq => ?_, h.low, h.sl, fun k q hq => ?_⟩
  · rcases hat 0 q hq with hq | ⟨e, rfl⟩
    · exact h.first q hq
    · have hp0 : x.p.length = 0 := e.symm
      have hs0 := h.pe hp0
      refine ⟨by dsimp only; omega, ?_⟩
      cases b
      · exact absurd ⟨rfl, hp0⟩ hb
      · rfl
  · rcases hat k q hq with hq1 | ⟨e, rfl⟩
    · obtain ⟨z1, z2, z3, z4⟩ := h.sc k q hq1
      refine ⟨z1, z2, z3, fun q' hq' => ?_⟩
      rcases hat (k + 1) q' hq' with hq2 | ⟨_, rfl⟩
      · exact z4 q' hq2
      · exact z1
    · refine ⟨Int.le_refl _, hc0, hc1, fun q' hq' => ?_⟩
      rcases hat (k + 1) q' hq' with hq2 | ⟨e', _⟩
      · have := (List.getElem?_eq_some_iff.1 hq2).1; omega
      · omega
  · dsimp only at hq ⊢
    rcases hat k q hq with hq1 | ⟨e, rfl⟩
    · have hr := h.room k q hq1
      have hlt := (List.getElem?_eq_some_iff.1 hq1).1
      have : liveAt x.s (x.p ++ [(⟨x.s.length, c, b⟩ : Sc)]) k = liveAt x.s x.p k := by
        unfold liveAt toN
        rw [hq, hq1]
        dsimp only
        by_cases hk : k + 1 < x.p.length
        · rw [List.getElem?_append_left hk]
        · have hk' : k + 1 = x.p.length := by omega
          rw [hk', List.getElem?_eq_none (Nat.le_refl _), List.getElem?_append_right (Nat.le_refl _), Nat.sub_self]
          simp
      rw [this]; exact hr
    · have : liveAt x.s (x.p ++ [(⟨x.s.length, c, b⟩ : Sc)]) k = 0 := by
        unfold liveAt toN
        rw [hq, List.getElem?_eq_none (by simp; omega)]
        simp [seg, cntLive]
      rw [this]; exact hc0

theorem seg_take (S : List Sl) (f a b : Nat) (hb : b ≤ f) : seg (S.take f) a b = seg S a b := by
  unfold seg
  rw [List.drop_take, List.take_take]
  congr 1
  omega
/-- scopes are closed -/
theorem VL.cut {x : Lc} (h : VL x) {k : Nat} {q : Sc} (hq : x.p[k]? = some q) : VL ⟨x.s.take q.from_.toNat, x.p.take k, x.i⟩ := by
  have hn := h.from_nn hq
  have hle := (h.sc k q hq).1
  have hk := (List.getElem?_eq_some_iff.1 hq).1
  have hlen : (x.s.take q.from_.toNat).length = q.from_.toNat := by rw [List.length_take]; omega
  have hat : ∀ (j : Nat) (r : Sc), (x.p.take k)[j]? = some r → j < k ∧ x.p[j]? = some r := by
    intro j r hr
    rw [List.getElem?_take] at hr
    split at hr
    · exact ⟨by assumption, hr⟩
    · cases hr
  have hsat : ∀ (j : Nat) (s : Sl), (x.s.take q.from_.toNat)[j]? = some s → x.s[j]? = some s := by
    intro j s hs
    rw [List.getElem?_take] at hs
    split at hs
    · exact hs
    · cases hs
  refine ⟨h.il, h.iv, by have := h.pl; simp; omega, fun e => ?_, fun r hr => h.first r (hat 0 r hr).2, fun j r hr => ?_, fun s hs => h.low s (hsat 0 s hs), fun j s hs => ?_, fun j r hr => ?_⟩
  · dsimp only at e ⊢
    rw [hlen]
    rw [List.length_take] at e
    have hk0 : k = 0 := by omega
    subst hk0
    have := (h.first q hq).1
    omega
  · obtain ⟨hj, hr⟩ := hat j r hr
    obtain ⟨z1, z2, z3, z4⟩ := h.sc j r hr
    refine ⟨?_, z2, z3, fun r' hr' => z4 r' (hat (j + 1) r' hr').2⟩
    dsimp only
    rw [hlen]
    have := h.from_mono j (k - j) r q hr (by rw [show j + (k - j) = k by omega]; exact hq)
    omega
  · obtain ⟨z1, z2, z3, z4⟩ := h.sl j s (hsat j s hs)
    exact ⟨z1, z2, z3, fun s' hs' => z4 s' (hsat (j + 1) s' hs')⟩
  · dsimp only at hr ⊢
    obtain ⟨hj, hr1⟩ := hat j r hr
    have hroom := h.room j r hr1
    have : liveAt (x.s.take q.from_.toNat) (x.p.take k) j = liveAt x.s x.p j := by
      unfold liveAt
      rw [hr, hr1]
      dsimp only
      have hto : toN (x.s.take q.from_.toNat) (x.p.take k) j = toN x.s x.p j ∧ toN x.s x.p j ≤ q.from_.toNat := by
        unfold toN
        by_cases hj1 : j + 1 < k
        · rw [List.getElem?_take, if_pos hj1]
          have hm : x.p[j + 1]? = some x.p[j + 1] := List.getElem?_eq_getElem (by omega)
          rw [hm]
          dsimp only
          have := h.from_mono (j + 1) (k - (j + 1)) _ q hm (by rw [show j + 1 + (k - (j + 1)) = k by omega]; exact hq)
          exact ⟨rfl, by omega⟩
        · have hj2 : j + 1 = k := by omega
          rw [List.getElem?_take, if_neg hj1, hj2, hq]
          dsimp only
          exact ⟨hlen, Nat.le_refl _⟩
      rw [hto.1, seg_take _ _ _ _ hto.2]
    rw [this]; exact hroom

theorem cnt_set (l : List Sl) (i : Nat) (y : Sl) (hy : y.live = false) : cntLive (l.set i y) ≤ cntLive l := by
  unfold cntLive
  induction l generalizing i with
  | nil => simp
  | cons a r ih =>
    cases i with
    | zero =>
      rw [List.set_cons_zero, List.countP_cons, List.countP_cons, hy]
      simp
    | succ i =>
      rw [List.set_cons_succ, List.countP_cons, List.countP_cons]
      have := ih i
      omega
theorem seg_set (S : List Sl) (i : Nat) (y : Sl) (a b : Nat) (hy : y.live = false) : cntLive (seg (S.set i y) a b) ≤ cntLive (seg S a b) := by
  unfold seg
  rw [List.drop_set]
  split
  · exact Nat.le_refl _
  · rw [List.take_set]
    exact cnt_set _ _ _ hy
/-- a handle is deleted -/
theorem VL.del {x : Lc} (h : VL x) {k : Nat} {s : Sl} (hs : x.s[k]? = some s) : VL ⟨x.s.set k ⟨s.stamp, 0#64, false⟩, x.p, x.i⟩ := by
  have hk := (List.getElem?_eq_some_iff.1 hs).1
  have hat : ∀ (j : Nat) (r : Sl), (x.s.set k ⟨s.stamp, 0#64, false⟩)[j]? = some r → ∃ r0, x.s[j]? = some r0 ∧ r0.stamp = r.stamp ∧ (r = r0 ∨ (r.live = false ∧ r.ref = 0#64)) := by
    intro j r hr
    by_cases hj : j = k
    · subst hj
      rw [List.getElem?_set_self hk] at hr
      obtain rfl := Option.some.inj hr
      exact ⟨s, hs, rfl, Or.inr ⟨rfl, rfl⟩⟩
    · rw [List.getElem?_set_ne (fun e => hj e.symm)] at hr
      exact ⟨r, hr, rfl, Or.inl rfl⟩
  refine ⟨h.il, h.iv, h.pl, fun e => by dsimp only; rw [List.length_set]; exact h.pe e, h.first, fun j q hq => by dsimp only; rw [List.length_set]; exact h.sc j q hq, fun r hr => ?_, fun j r hr => ?_, fun j q hq => ?_⟩
  · obtain ⟨r0, h0, h1, -⟩ := hat 0 r hr
    have := h.low r0 h0; omega
  · obtain ⟨r0, h0, h1, h2⟩ := hat j r hr
    obtain ⟨z1, z2, z3, z4⟩ := h.sl j r0 h0
    refine ⟨by rw [← h1]; exact z1, by rw [← h1]; exact z2, ?_, fun r' hr' => ?_⟩
    · rcases h2 with rfl | ⟨e1, e2⟩
      · exact z3
      · rw [e1, e2]; rfl
    · obtain ⟨r0', h0', h1', -⟩ := hat (j + 1) r' hr'
      have := z4 r0' h0'
      omega
  · dsimp only at hq ⊢
    have hroom := h.room j q hq
    have hle : liveAt (x.s.set k ⟨s.stamp, 0#64, false⟩) x.p j ≤ liveAt x.s x.p j := by
      unfold liveAt
      rw [hq]
      dsimp only
      have hto : toN (x.s.set k ⟨s.stamp, 0#64, false⟩) x.p j = toN x.s x.p j := by unfold toN; rw [List.length_set]
      rw [hto]
      exact seg_set _ _ _ _ _ rfl
    omega
end Go.Proofs.Ytmcdhpbkhchpeaa

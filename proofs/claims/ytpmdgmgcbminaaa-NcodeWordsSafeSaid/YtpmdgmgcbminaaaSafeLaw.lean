/- The plain law of Safe: a program is safe just if there is a closed table of sorts. No program in sight but for the program's step (afterP). -/
import Derived.Test.YtpmdgmgcbminaaaSafe10
namespace Go.Proofs.Ytpmdgmgcbminaaa
open Go.RowKit Words

/-- a sort is not above another: the other is the same or stale -/
def Srt.Le (p q : Srt) : Prop := q = p ∨ q = .stale
theorem Srt.Le.rfl' {p : Srt} : p.Le p := Or.inl rfl
theorem Srt.Le.trans {p q r : Srt} (h : p.Le q) (k : q.Le r) : p.Le r := by
  rcases k with rfl | rfl
  · exact h
  · exact Or.inr rfl
theorem Srt.Le.eq {p q : Srt} (h : p.Le q) (hq : q ≠ .stale) : p = q := by
  rcases h with h | h
  · exact h.symm
  · exact absurd h hq
/-- the same register by register -/
def SLe (s t : List Srt) : Prop := s.length = 8 ∧ t.length = 8 ∧ ∀ (j : Nat) (p q : Srt), s[j]? = some p → t[j]? = some q → p.Le q
theorem SLe.refl {s : List Srt} (h : s.length = 8) : SLe s s := ⟨h, h, fun _ _ _ hp hq => Or.inl (Option.some.inj (hq.symm.trans hp))⟩
theorem SLe.trans {s t u : List Srt} (h : SLe s t) (k : SLe t u) : SLe s u := by
  refine ⟨h.1, k.2.1, fun j p r hp hr => ?_⟩
  have hj := (List.getElem?_eq_some_iff.1 hp).1
  obtain ⟨q, hq⟩ : ∃ q, t[j]? = some q := ⟨_, List.getElem?_eq_getElem (by rw [h.2.1, ← h.1]; exact hj)⟩
  exact (h.2.2 j p q hp hq).trans (k.2.2 j q r hq hr)
theorem SLe.set {s t : List Srt} (h : SLe s t) {p q : Srt} (hpq : p.Le q) (a : Nat) : SLe (s.set a p) (t.set a q) := by
  refine ⟨by rw [List.length_set]; exact h.1, by rw [List.length_set]; exact h.2.1, fun j x y hx hy => ?_⟩
  rw [List.getElem?_set] at hx hy
  by_cases e : a = j
  · rw [if_pos e] at hx hy
    split at hx
    · split at hy
      · rw [← Option.some.inj hx, ← Option.some.inj hy]; exact hpq
      · cases hy
    · cases hx
  · rw [if_neg e] at hx hy
    exact h.2.2 j x y hx hy
theorem SLe.map {s t : List Srt} (h : SLe s t) {f : Srt → Srt} (hf : ∀ p q, p.Le q → (f p).Le (f q)) : SLe (s.map f) (t.map f) := by
  refine ⟨by rw [List.length_map]; exact h.1, by rw [List.length_map]; exact h.2.1, fun j x y hx hy => ?_⟩
  rw [List.getElem?_map] at hx hy
  obtain ⟨p, hp, rfl⟩ := Option.map_eq_some_iff.1 hx
  obtain ⟨q, hq, rfl⟩ := Option.map_eq_some_iff.1 hy
  exact hf _ _ (h.2.2 j p q hp hq)
theorem calledG_mono (b : Int) (i : Nat) (p q : Srt) (h : p.Le q) : (calledG b i p).Le (calledG b i q) := by
  rcases h with rfl | rfl
  · exact Or.inl rfl
  · refine Or.inr ?_
    unfold calledG
    split
    · rfl
    · split <;> rfl
theorem SLe.called {s t : List Srt} (h : SLe s t) (a : Nat) (b : Int) (i : Nat) : SLe (calledS s a b i) (calledS t a b i) :=
  (h.map (calledG_mono b i)).set Srt.Le.rfl' a
theorem SLe.words {s t : List Srt} (h : SLe s t) {a b : Nat} (hw : wordsS t a b = true) : wordsS s a b = true := by
  unfold wordsS at hw ⊢
  rw [List.all_eq_true] at hw ⊢
  intro x hx
  obtain ⟨j, hj⟩ := List.getElem?_of_mem hx
  rw [List.getElem?_take] at hj
  split at hj
  · rename_i hlt
    rw [List.getElem?_drop] at hj
    have hl := (List.getElem?_eq_some_iff.1 hj).1
    obtain ⟨q, hq⟩ : ∃ q, t[a + j]? = some q := ⟨_, List.getElem?_eq_getElem (by rw [h.2.1, ← h.1]; exact hl)⟩
    have hm : q ∈ (t.drop a).take (b - a) := List.mem_of_getElem? (i := j) (by rw [List.getElem?_take, if_pos hlt, List.getElem?_drop]; exact hq)
    have := hw q hm
    rw [decide_eq_true_eq] at this ⊢
    subst this
    exact (h.2.2 _ _ _ hj hq).eq (by simp)
  · cases hj
theorem resS_mono (op : Int) (p q p' q' : Srt) (hp : p.Le p') (hq : q.Le q') (h : (resS op p' q').2 = true) : (resS op p q).2 = true ∧ (resS op p q).1.Le (resS op p' q').1 := by
  rcases hp with rfl | rfl
  · rcases hq with rfl | rfl
    · exact ⟨h, Or.inl rfl⟩
    · revert h
      unfold resS
      split
      · exact fun h => ⟨h, Or.inl rfl⟩
      split
      · simp [Srt.kind]
      split
      · cases p' <;> simp [Srt.kind]
      split
      · simp [Srt.kind]
      split
      · cases p' <;> simp [Srt.kind]
      split
      · exact fun h => ⟨h, Or.inl rfl⟩
      · exact fun _ => ⟨rfl, Or.inl rfl⟩
  · revert h
    unfold resS
    split
    · simp [Srt.kind]
    split
    · simp [Srt.kind]
    split
    · simp [Srt.kind]
    split
    · simp [Srt.kind]
    split
    · simp [Srt.kind]
    split
    · simp [Srt.kind]
    · exact fun _ => ⟨rfl, Or.inl rfl⟩
/-- the step of an instruction -/
def aft (s : List Srt) (x : NI) (i : Nat) : List Srt × Bool :=
  afterP s x.op x.a.toNat x.b x.c.toNat i (s[x.a.toNat]?.getD .wd) (s[x.b.toNat % 8]?.getD .wd) (s[x.c.toNat]?.getD .wd)
theorem SLe.at_ {s t : List Srt} (h : SLe s t) (j : Nat) (hj : j < 8) : (s[j]?.getD .wd).Le (t[j]?.getD .wd) := by
  obtain ⟨p, hp⟩ : ∃ p, s[j]? = some p := ⟨_, List.getElem?_eq_getElem (by rw [h.1]; exact hj)⟩
  obtain ⟨q, hq⟩ : ∃ q, t[j]? = some q := ⟨_, List.getElem?_eq_getElem (by rw [h.2.1]; exact hj)⟩
  rw [hp, hq]
  exact h.2.2 j p q hp hq
theorem aft_len {s : List Srt} (hs : s.length = 8) (x : NI) (i : Nat) : (aft s x i).1.length = 8 := by
  unfold aft afterP calledS
  split
  · exact hs
  split
  · exact hs
  split
  · exact hs
  split
  · simp [hs]
  split
  · simp [hs]
  · simp [hs]
theorem aft_mono {s t : List Srt} (h : SLe s t) (x : NI) (hx : formedI x = true) (i : Nat) (ht : (aft t x i).2 = true) : (aft s x i).2 = true ∧ SLe (aft s x i).1 (aft t x i).1 := by
  have hf := (formedI_iff x).1 hx
  have ha := h.at_ x.a.toNat (by omega)
  have hb := h.at_ (x.b.toNat % 8) (by omega)
  have hc := h.at_ x.c.toNat (by omega)
  revert ht
  unfold aft afterP
  generalize s[x.a.toNat]?.getD .wd = pa at ha ⊢
  generalize s[x.b.toNat % 8]?.getD .wd = pb at hb ⊢
  generalize s[x.c.toNat]?.getD .wd = pc at hc ⊢
  generalize t[x.a.toNat]?.getD .wd = qa at ha ⊢
  generalize t[x.b.toNat % 8]?.getD .wd = qb at hb ⊢
  generalize t[x.c.toNat]?.getD .wd = qc at hc ⊢
  split
  · exact fun _ => ⟨rfl, h⟩
  split
  · intro ht
    refine ⟨?_, h⟩
    rcases ha with rfl | rfl
    · exact ht
    · cases ht
  split
  · intro ht
    refine ⟨?_, h⟩
    rcases ha with rfl | rfl
    · rcases hb with rfl | rfl
      · exact ht
      · simp [Srt.kind] at ht
    · simp [Srt.kind] at ht
  split
  · exact fun ht => ⟨h.words ht, h.set Srt.Le.rfl' _⟩
  split
  · exact fun ht => ⟨h.words ht, h.called _ _ _⟩
  · exact fun ht => ⟨(resS_mono _ _ _ _ _ hb hc ht).1, h.set (resS_mono _ _ _ _ _ hb hc ht).2 _⟩

/-! ### the join -/
theorem joinR_len (u t : List Srt) : (joinR u t).length = u.length := by unfold joinR; rw [List.length_mapIdx]
theorem joinR_at {u t : List Srt} {j : Nat} {p q : Srt} (hp : u[j]? = some p) (hq : t[j]? = some q) : (joinR u t)[j]? = some (if p = q then p else .stale) := by
  unfold joinR
  rw [List.getElem?_mapIdx, hp, hq]
  simp only [Option.map_some, Option.some.injEq]
  by_cases e : p = q
  · subst e; simp
  · rw [if_neg (fun h => e h.symm), if_neg e]
theorem at8 {u : List Srt} (h : u.length = 8) {v : List Srt} (hv : v.length = 8) {j : Nat} {p : Srt} (hp : u[j]? = some p) : ∃ q, v[j]? = some q :=
  ⟨_, List.getElem?_eq_getElem (by rw [hv, ← h]; exact (List.getElem?_eq_some_iff.1 hp).1)⟩
theorem joinR_le {u t z : List Srt} (h : SLe u z) (k : SLe t z) : SLe (joinR u t) z := by
  refine ⟨by rw [joinR_len]; exact h.1, h.2.1, fun j r y hr hy => ?_⟩
  obtain ⟨p, hp⟩ := at8 h.2.1 h.1 hy
  obtain ⟨q, hq⟩ := at8 h.2.1 k.1 hy
  have := h.2.2 j p y hp hy
  have h2 := k.2.2 j q y hq hy
  rw [joinR_at hp hq] at hr
  rw [← Option.some.inj hr]
  by_cases e : p = q
  · rw [if_pos e]; exact this
  · rw [if_neg e]
    rcases this with rfl | rfl
    · rcases h2 with rfl | rfl
      · exact absurd rfl e
      · exact Or.inr rfl
    · exact Or.inr rfl
theorem le_joinR {u t : List Srt} (hu : u.length = 8) (ht : t.length = 8) : SLe u (joinR u t) := by
  refine ⟨hu, by rw [joinR_len]; exact hu, fun j p r hp hr => ?_⟩
  obtain ⟨q, hq⟩ := at8 hu ht hp
  rw [joinR_at hp hq] at hr
  rw [← Option.some.inj hr]
  by_cases e : p = q
  · rw [if_pos e]; exact Or.inl rfl
  · rw [if_neg e]; exact Or.inr rfl
theorem joinR_same {u t : List Srt} (hu : u.length = 8) (ht : t.length = 8) (h : joinR u t = u) : SLe t u := by
  refine ⟨ht, hu, fun j q p hq hp => ?_⟩
  have := joinR_at hp hq
  rw [h, hp] at this
  have h2 := Option.some.inj this
  by_cases e : p = q
  · exact Or.inl e
  · rw [if_neg e] at h2; exact Or.inr h2
theorem same_joinR {u t : List Srt} (hu : u.length = 8) (ht : t.length = 8) (h : SLe t u) : joinR u t = u := by
  apply List.ext_getElem?
  intro j
  by_cases hj : j < 8
  · obtain ⟨p, hp⟩ : ∃ p, u[j]? = some p := ⟨_, List.getElem?_eq_getElem (by omega)⟩
    obtain ⟨q, hq⟩ := at8 hu ht hp
    rw [joinR_at hp hq, hp]
    by_cases e : p = q
    · rw [if_pos e]
    · rw [if_neg e]
      rcases h.2.2 j q p hq hp with rfl | rfl
      · exact absurd rfl e
      · rfl
  · rw [List.getElem?_eq_none (by rw [joinR_len]; omega), List.getElem?_eq_none (by omega)]
/-- how many registers are not stale -/
def fresh : List Srt → Nat
  | [] => 0
  | x :: s => (if x = .stale then 0 else 1) + fresh s
theorem fresh_le : ∀ s : List Srt, fresh s ≤ s.length
  | [] => Nat.le_refl _
  | x :: s => by
    have := fresh_le s
    show (if x = .stale then 0 else 1) + fresh s ≤ s.length + 1
    split <;> omega
theorem fresh_mono : ∀ (s t : List Srt), s.length = t.length → (∀ (j : Nat) (p q : Srt), s[j]? = some p → t[j]? = some q → p.Le q) → fresh t ≤ fresh s ∧ (t ≠ s → fresh t < fresh s)
  | [], [], _, _ => ⟨Nat.le_refl _, fun h => absurd rfl h⟩
  | [], _ :: _, h, _ => by simp at h
  | _ :: _, [], h, _ => by simp at h
  | a :: s, b :: t, h, hle => by
    obtain ⟨i1, i2⟩ := fresh_mono s t (by simpa using h) (fun j p q hp hq => hle (j + 1) p q (by simpa using hp) (by simpa using hq))
    have h0 := hle 0 a b rfl rfl
    show (if b = .stale then 0 else 1) + fresh t ≤ (if a = .stale then 0 else 1) + fresh s ∧ (b :: t ≠ a :: s → (if b = .stale then 0 else 1) + fresh t < (if a = .stale then 0 else 1) + fresh s)
    rcases h0 with rfl | rfl
    · exact ⟨by omega, fun hne => by have := i2 (fun e => hne (by rw [e])); omega⟩
    · by_cases ha : a = .stale
      · subst ha
        exact ⟨by omega, fun hne => by have := i2 (fun e => hne (by rw [e])); omega⟩
      · rw [if_pos rfl, if_neg ha]
        exact ⟨by omega, fun _ => by omega⟩
theorem fresh_lt {u t : List Srt} (hu : u.length = 8) (ht : t.length = 8) (h : joinR u t ≠ u) : fresh (joinR u t) < fresh u :=
  (fresh_mono u (joinR u t) (by rw [joinR_len]) (le_joinR hu ht).2.2).2 h

/-! ### tables -/
abbrev Tbl := Nat → Option (List Srt)
def Tbl.put (m : Tbl) (k : Nat) (t : List Srt) : Tbl := fun j => if j = k then some t else m j
theorem Tbl.put_self (m : Tbl) (k : Nat) (t : List Srt) : m.put k t k = some t := if_pos rfl
theorem Tbl.put_ne (m : Tbl) {k j : Nat} (h : j ≠ k) (t : List Srt) : m.put k t j = m j := if_neg h
def wt : Option (List Srt) → Nat | none => 9 | some u => fresh u
def Tbl.meas (m : Tbl) : Nat → Nat | 0 => wt (m 0) | n + 1 => m.meas n + wt (m (n + 1))
theorem Tbl.meas_far (m : Tbl) {k : Nat} (t : List Srt) : ∀ n, n < k → (m.put k t).meas n = m.meas n
  | 0, h => by show wt (m.put k t 0) = wt (m 0); rw [m.put_ne (by omega)]
  | n + 1, h => by show (m.put k t).meas n + wt (m.put k t (n + 1)) = m.meas n + wt (m (n + 1)); rw [m.meas_far t n (by omega), m.put_ne (by omega)]
theorem Tbl.meas_put (m : Tbl) {k : Nat} {t : List Srt} (hlt : fresh t < wt (m k)) : ∀ n, k ≤ n → (m.put k t).meas n < m.meas n
  | 0, h => by
    obtain rfl : k = 0 := by omega
    show wt (m.put 0 t 0) < wt (m 0)
    rw [m.put_self]; exact hlt
  | n + 1, h => by
    show (m.put k t).meas n + wt (m.put k t (n + 1)) < m.meas n + wt (m (n + 1))
    by_cases e : k = n + 1
    · subst e
      rw [m.meas_far t n (by omega), m.put_self]
      have : wt (some t) = fresh t := rfl
      omega
    · rw [m.put_ne (by omega)]
      have := m.meas_put hlt n (by omega)
      omega
theorem Tbl.meas_new (m : Tbl) {k : Nat} {t : List Srt} (h : m k = none) (ht : t.length = 8) {n : Nat} (hk : k ≤ n) : (m.put k t).meas n < m.meas n :=
  m.meas_put (by rw [h]; have := fresh_le t; show fresh t < 9; omega) n hk
theorem Tbl.meas_join (m : Tbl) {k : Nat} {u t : List Srt} (h : m k = some u) (hu : u.length = 8) (ht : t.length = 8) (hne : joinR u t ≠ u) {n : Nat} (hk : k ≤ n) : (m.put k (joinR u t)).meas n < m.meas n :=
  m.meas_put (by rw [h]; exact fresh_lt hu ht hne) n hk
/-- the sorts at the start -/
def sort0 : List Srt := List.replicate 8 .wd
/-- a table is closed under all steps, and obeys all rules -/
structure Closed (l : List NI) (X : Tbl) : Prop where
  len : ∀ k s, X k = some s → s.length = 8
  start : ∃ s, X 0 = some s ∧ SLe sort0 s
  ok : ∀ i x s, l[i]? = some x → X i = some s → (aft s x i).2 = true
  step : ∀ i x s (k : Nat), l[i]? = some x → X i = some s → (k : Int) ∈ waysL x.op x.k i → ∃ u, X k = some u ∧ SLe (aft s x i).1 u
def Safe (l : List NI) : Prop := ∃ X, Closed l X
/-- a table lies below another -/
def Tbl.Under (m X : Tbl) : Prop := ∀ k s, m k = some s → ∃ t, X k = some t ∧ SLe s t
theorem Tbl.Under.start {l : List NI} {X : Tbl} (h : Closed l X) : Tbl.Under (fun j => if j = 0 then some sort0 else none) X := by
  intro k s hs
  by_cases e : k = 0
  · subst e
    obtain ⟨t, ht, hl⟩ := h.start
    exact ⟨t, ht, Option.some.inj hs ▸ hl⟩
  · simp [e] at hs
theorem Tbl.Under.put {m X : Tbl} (h : m.Under X) {k : Nat} {t z : List Srt} (hz : X k = some z) (ht : SLe t z) : (m.put k t).Under X := by
  intro j s hs
  by_cases e : j = k
  · subst e
    rw [m.put_self] at hs
    exact ⟨z, hz, Option.some.inj hs ▸ ht⟩
  · rw [m.put_ne e] at hs
    exact h j s hs
section
variable {l : List NI} {m X : Tbl} {i k : Nat} {x : NI} {s u : List Srt}
theorem Tbl.Under.ok (h : m.Under X) (hX : Closed l X) (hf : formedI x = true) (hx : l[i]? = some x) (hs : m i = some s) : (aft s x i).2 = true := by
  obtain ⟨t, ht, hl⟩ := h i s hs
  exact (aft_mono hl x hf i (hX.ok i x t hx ht)).1
theorem Tbl.Under.way (h : m.Under X) (hX : Closed l X) (hf : formedI x = true) (hx : l[i]? = some x) (hs : m i = some s) (hk : (k : Int) ∈ waysL x.op x.k i) : ∃ z, X k = some z ∧ SLe (aft s x i).1 z := by
  obtain ⟨t, ht, hl⟩ := h i s hs
  obtain ⟨z, hz, hlz⟩ := hX.step i x t k hx ht hk
  exact ⟨z, hz, (aft_mono hl x hf i (hX.ok i x t hx ht)).2.trans hlz⟩
theorem Tbl.Under.new (h : m.Under X) (hX : Closed l X) (hf : formedI x = true) (hx : l[i]? = some x) (hs : m i = some s) (hk : (k : Int) ∈ waysL x.op x.k i) : (m.put k (aft s x i).1).Under X := by
  obtain ⟨z, hz, hl⟩ := h.way hX hf hx hs hk
  exact h.put hz hl
theorem Tbl.Under.join (h : m.Under X) (hX : Closed l X) (hf : formedI x = true) (hx : l[i]? = some x) (hs : m i = some s) (hk : (k : Int) ∈ waysL x.op x.k i) (hu : m k = some u) : (m.put k (joinR u (aft s x i).1)).Under X := by
  obtain ⟨z, hz, hl⟩ := h.way hX hf hx hs hk
  obtain ⟨z', hz', hl'⟩ := h k u hu
  obtain rfl : z = z' := Option.some.inj (hz.symm.trans hz')
  exact h.put hz (joinR_le hl' hl)
end
end Go.Proofs.Ytpmdgmgcbminaaa

/- The plain law of local handles: as many issued handles live as there are references. No program in sight. -/
import Derived.Test.YtmcdhpbkhchpeaaScopeLaw3
import Derived.Test.YtmcdhpbkhchpeaaScope11
namespace Go.Proofs.Ytmcdhpbkhchpeaa
open Go.RowKit Words

theorem countP_disj {α : Type} (p q : α → Bool) (l : List α) (h : ∀ a ∈ l, ¬ (p a = true ∧ q a = true)) : l.countP (fun a => p a || q a) = l.countP p + l.countP q := by
  induction l with
  | nil => rfl
  | cons a r ih =>
    rw [List.countP_cons, List.countP_cons, List.countP_cons, ih (fun b hb => h b (List.mem_cons_of_mem _ hb))]
    have := h a List.mem_cons_self
    cases hp : p a <;> cases hq : q a <;> simp_all <;> omega
theorem countP_one (n m : Nat) (hm : m < n) : (List.range n).countP (fun k => decide (k = m)) = 1 := by
  induction n with
  | zero => omega
  | succ n ih =>
    rw [List.range_succ, List.countP_append]
    by_cases h : m = n
    · subst h
      have : (List.range m).countP (fun k => decide (k = m)) = 0 := by
        rw [List.countP_eq_zero]
        intro a ha
        have := List.mem_range.1 ha
        simp; omega
      rw [this]; simp
    · rw [ih (by omega)]
      have : decide (n = m) = false := decide_eq_false (by omega)
      simp [this]
/-- the stamps rise -/
def Rising : Int → List Sl → Prop
  | _, [] => True
  | last, s :: r => last < s.stamp ∧ Rising s.stamp r
theorem Rising.all {l : List Sl} : ∀ {last : Int}, Rising last l → ∀ s ∈ l, last < s.stamp := by
  induction l with
  | nil => intro last _ s hs; cases hs
  | cons a r ih =>
    intro last h s hs
    rcases List.mem_cons.1 hs with rfl | hs
    · exact h.1
    · have := ih h.2 s hs; have := h.1; omega
theorem count_stamps (n : Nat) (l : List Sl) : ∀ (last : Int), 0 ≤ last → Rising last l → (∀ s ∈ l, s.stamp ≤ (n : Int)) →
    (List.range n).countP (fun k : Nat => l.any (fun s => s.live && decide (s.stamp = (k : Int) + 1))) = l.countP (·.live) := by
  induction l with
  | nil => intro last _ _ _; simp
  | cons s r ih =>
    intro last h0 hr hn
    have h1 := hr.1
    have hsn := hn s List.mem_cons_self
    have hd := countP_disj (fun k : Nat => s.live && decide (s.stamp = (k : Int) + 1)) (fun k : Nat => r.any (fun s => s.live && decide (s.stamp = (k : Int) + 1))) (List.range n) (by
      rintro k _ ⟨e1, e2⟩
      rw [Bool.and_eq_true, decide_eq_true_eq] at e1
      rw [List.any_eq_true] at e2
      obtain ⟨s', hs', e3⟩ := e2
      rw [Bool.and_eq_true, decide_eq_true_eq] at e3
      have := hr.2.all s' hs'
      omega)
    simp only [List.any_cons]
    rw [hd, ih s.stamp (by omega) hr.2 (fun s' hs' => hn s' (List.mem_cons_of_mem _ hs')), List.countP_cons]
    have : (List.range n).countP (fun k : Nat => s.live && decide (s.stamp = (k : Int) + 1)) = if s.live = true then 1 else 0 := by
      cases hl : s.live
      · simp
      · have hone := countP_one n (s.stamp - 1).toNat (by omega)
        rw [if_pos rfl, ← hone]
        congr 1
        funext k
        simp only [Bool.true_and]
        congr 1
        apply propext
        constructor <;> intro e <;> omega
    rw [this]; omega
theorem VL.rising_from {x : Lc} (h : VL x) : ∀ (d j : Nat), x.s.length - j = d → ∀ last : Int, (∀ s, x.s[j]? = some s → last < s.stamp) → Rising last (x.s.drop j) := by
  intro d
  induction d with
  | zero => intro j hj last _; rw [List.drop_eq_nil_of_le (by omega)]; trivial
  | succ d ih =>
    intro j hj last hl
    have hjl : j < x.s.length := by omega
    have hs : x.s[j]? = some x.s[j] := List.getElem?_eq_getElem hjl
    rw [drop_at hs]
    exact ⟨hl _ hs, ih (j + 1) (by omega) _ (fun s' hs' => (h.sl j _ hs).2.2.2 s' hs')⟩
theorem VL.rising {x : Lc} (h : VL x) : Rising 0 x.s := by
  have := h.rising_from x.s.length 0 (by omega) 0 (fun s hs => h.low s hs)
  rwa [List.drop_zero] at this
theorem countP_range {α : Type} (l : List α) (f : α → Bool) : (List.range l.length).countP (fun k => match l[k]? with | some a => f a | none => false) = l.countP f := by
  have key : ∀ (m : Nat), m ≤ l.length → (List.range m).countP (fun k => match l[k]? with | some a => f a | none => false) = (l.take m).countP f := by
    intro m
    induction m with
    | zero => intro _; simp
    | succ m ih =>
      intro hm
      have hg : l[m]? = some l[m] := List.getElem?_eq_getElem (by omega)
      rw [List.range_succ, List.countP_append, ih (by omega), List.take_succ_eq_append_getElem (by omega), List.countP_append]
      congr 1
      simp [List.countP_cons, hg]
  rw [key l.length (Nat.le_refl _), List.take_length]
/-- does an issued handle live? -/
def aliveI (x : Lc) (g : Iss) : Bool := decide ((getL x g.at_ g.stamp).2 = 0)
theorem Good.alive {x : Lc} {is : List Iss} (h : Good x is) : is.countP (aliveI x) = (liveRefs x.s).length := by
  have h1 := count_stamps is.length x.s 0 (Int.le_refl _) h.v.rising (fun s hs => by
    obtain ⟨j, hj⟩ := List.getElem?_of_mem hs
    have := (h.v.sl j s hj).1
    rw [h.len]; exact this)
  have h2 := countP_range is (aliveI x)
  have h3 : (liveRefs x.s).length = x.s.countP (·.live) := by unfold liveRefs; rw [List.length_map, ← List.countP_eq_length_filter]
  rw [h3, ← h1, ← h2]
  apply List.countP_congr
  intro k hk
  have hkl := List.mem_range.1 hk
  have hg : is[k]? = some is[k] := List.getElem?_eq_getElem hkl
  rw [hg]
  dsimp only
  obtain ⟨z1, z2⟩ := h.iss k _ hg
  unfold aliveI
  rw [decide_eq_true_eq, List.any_eq_true]
  constructor
  · intro he
    obtain ⟨j, s, hj, hs, hst, hl, -, -⟩ := getL_ok he
    exact ⟨s, List.mem_of_getElem? hs, by rw [hl, Bool.true_and, decide_eq_true_eq]; omega⟩
  · rintro ⟨s, hs, he⟩
    rw [Bool.and_eq_true, decide_eq_true_eq] at he
    obtain ⟨j, hj⟩ := List.getElem?_of_mem hs
    have hi := (h.v.sl j s hj).2.1
    rw [show (s.stamp - 1).toNat = k by omega, z2] at hi
    have hat := Option.some.inj hi
    have hk' := (List.getElem?_eq_some_iff.1 z2).1
    have hnf : ¬ (is[k].stamp < 1 ∨ (x.i.length : Int) < is[k].stamp ∨ x.i[(is[k].stamp - 1).toNat]? ≠ some is[k].at_) := by
      rintro (e | e | e)
      · omega
      · omega
      · exact e (by rw [show (is[k].stamp - 1).toNat = k by omega]; exact z2)
    rw [getL_at h.valid hnf (s := s) (by rw [hat, Int.toNat_natCast]; exact hj), if_neg (fun e => e (by omega)), if_neg (by rw [he.1]; decide)]
end Go.Proofs.Ytmcdhpbkhchpeaa

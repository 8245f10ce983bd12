/- Which entries can be used again: the plain law on maps and on the first entry. -/
import Derived.Test.YtfcghhpbjnlldaaSlots10
import Derived.Maps.OwnSet
import Derived.Maps.RangeWalk
namespace Go.Proofs.Ytfcghhpbjnlldaa
open Go.RowKit Go.Maps Words

abbrev kLit (j : Nat) : Lit := .int .i64 j
/-- the keys of a map are just the numbers with f -/
def Keys (D : DataW Unit) (f : Nat → Prop) : Prop := ∀ kl, Maps.has D kl = true ↔ ∃ j : Nat, kl = kLit j ∧ f j
theorem kLit_inj {i j : Nat} (h : kLit i = kLit j) : i = j := by
  injection h with h1 h2
  omega
theorem Keys.start : Keys (.map []) (fun _ => False) := fun kl => by simp [Maps.has]
theorem Keys.put {D : DataW Unit} {f : Nat → Prop} (h : Keys D f) (hD : IsMap D) (k : Nat) (d : DataW Unit) : Keys (D.put (kLit k) d) (fun j => j = k ∨ f j) := fun kl => by
  by_cases he : kl = kLit k
  · subst he
    rw [has_put_same (k := kLit k) hD (show WideAt.IsKeyLit (kLit k) from trivial) d]
    simp only [true_iff]
    exact ⟨k, rfl, Or.inl rfl⟩
  · rw [has_put_other he, h kl]
    constructor
    · rintro ⟨j, rfl, hj⟩; exact ⟨j, rfl, Or.inr hj⟩
    · rintro ⟨j, rfl, hj⟩
      rcases hj with rfl | hj
      · exact absurd rfl he
      · exact ⟨j, rfl, hj⟩
theorem Keys.del {D : DataW Unit} {f : Nat → Prop} (h : Keys D f) (k : Nat) : Keys (D.del (kLit k)) (fun j => j ≠ k ∧ f j) := fun kl => by
  by_cases he : kl = kLit k
  · subst he
    rw [has_del_same]
    constructor
    · intro h; cases h
    · rintro ⟨j, hj, h1, _⟩
      exact absurd (kLit_inj hj).symm h1
  · rw [has_del_other he, h kl]
    constructor
    · rintro ⟨j, rfl, hj⟩; exact ⟨j, rfl, fun e => he (by rw [e]), hj⟩
    · rintro ⟨j, rfl, _, hj⟩; exact ⟨j, rfl, hj⟩
theorem Keys.congr {D : DataW Unit} {f g : Nat → Prop} (h : Keys D f) (hfg : ∀ j, f j ↔ g j) : Keys D g := fun kl => by
  rw [h kl]
  exact ⟨fun ⟨j, e, hj⟩ => ⟨j, e, (hfg j).1 hj⟩, fun ⟨j, e, hj⟩ => ⟨j, e, (hfg j).2 hj⟩⟩
theorem Keys.size {D : DataW Unit} {f : Nat → Prop} (h : Keys D f) (hD : ∃ es, D = .map es ∧ ∀ p ∈ es, WideAt.IsKeyLit p.1) : (0 < Maps.size D) ↔ ∃ j, f j := by
  obtain ⟨es, rfl, hk⟩ := hD
  cases es with
  | nil =>
    constructor
    · intro h0; simp [Maps.size] at h0
    · rintro ⟨j, hj⟩
      have := (h (kLit j)).2 ⟨j, rfl, hj⟩
      simp [Maps.has] at this
  | cons p r =>
    constructor
    · intro _
      have hp : Maps.has (.map (p :: r)) p.1 = true := by
        rw [Maps.has_eq, List.any_cons, WideAt.sameKey_self (hk p List.mem_cons_self), Bool.true_or]
      obtain ⟨j, _, hj⟩ := (h p.1).1 hp
      exact ⟨j, hj⟩
    · intro _; simp [Maps.size]

/-- an entry that can be used again -/
def useE (x : Ent) : Bool := !x.live && x.gen != 4294967295
def firstUse : List Ent → Nat
  | [] => 0
  | x :: r => if useE x = true then 0 else firstUse r + 1
def unusedW (l : List Ent) : Int × Bool := (firstUse l, l.any useE)
theorem firstUse_le (l : List Ent) : firstUse l ≤ l.length := by
  induction l with
  | nil => simp [firstUse]
  | cons x r ih => rw [firstUse]; split <;> simp <;> omega
theorem firstUse_lt (l : List Ent) (j : Nat) (x : Ent) (h : l[j]? = some x) (hu : useE x = true) : firstUse l ≤ j := by
  induction l generalizing j with
  | nil => simp at h
  | cons y r ih =>
    rw [firstUse]
    split
    · omega
    · rename_i hy
      cases j with
      | zero => simp at h; subst h; exact absurd hu hy
      | succ j => have := ih j (by simpa using h); omega
theorem firstUse_at (l : List Ent) (h : firstUse l < l.length) : ∃ x, l[firstUse l]? = some x ∧ useE x = true := by
  induction l with
  | nil => simp [firstUse] at h
  | cons y r ih =>
    rw [firstUse] at h ⊢
    split
    · rename_i hy; exact ⟨y, by simp, hy⟩
    · rename_i hy
      rw [if_neg hy] at h
      obtain ⟨x, hx, hu⟩ := ih (by simp at h; omega)
      exact ⟨x, by simpa using hx, hu⟩
end Go.Proofs.Ytfcghhpbjnlldaa

/- The plain law on tables: making a handle, and the life of handles. -/
import Derived.Test.YtfcghhpbjnlldaaUnused
namespace Go.Proofs.Ytfcghhpbjnlldaa
open Go.RowKit Words

/-- making a handle: the table, the index, the generation, the error -/
def newW (l : List Ent) (r : BitVec 64) : List Ent × Int × Int × Int :=
  if validT l = false then ([], 0, 0, 1)
  else match l[firstUse l]? with
    | some x => (l.set (firstUse l) ⟨x.gen + 1, r, true⟩, (firstUse l : Int), x.gen + 1, 0)
    | none => if l.length < 64 then (l ++ [⟨1, r, true⟩], (l.length : Int), 1, 0) else ([], 0, 0, 18)
theorem useE_any (l : List Ent) : l.any useE = decide (firstUse l < l.length) := by
  induction l with
  | nil => rfl
  | cons x r ih =>
    rw [firstUse, List.any_cons, ih]
    by_cases h : useE x = true
    · rw [if_pos h, h, Bool.true_or, List.length_cons]
      simp
    · rw [if_neg h, List.length_cons]
      simp only [Bool.not_eq_true] at h
      rw [h, Bool.false_or, Bool.eq_iff_iff]
      simp
theorem newW_bad {l : List Ent} (r : BitVec 64) (h : validT l = false) : newW l r = ([], 0, 0, 1) := by unfold newW; rw [if_pos h]
theorem newW_use {l : List Ent} (r : BitVec 64) (h : validT l = true) {x : Ent} (hx : l[firstUse l]? = some x) : newW l r = (l.set (firstUse l) ⟨x.gen + 1, r, true⟩, (firstUse l : Int), x.gen + 1, 0) := by
  unfold newW; rw [if_neg (by rw [h]; decide), hx]
theorem newW_add {l : List Ent} (r : BitVec 64) (h : validT l = true) (hx : ¬ firstUse l < l.length) (hl : l.length < 64) : newW l r = (l ++ [⟨1, r, true⟩], (l.length : Int), 1, 0) := by
  unfold newW; rw [if_neg (by rw [h]; decide), List.getElem?_eq_none (by omega)]
  dsimp only
  rw [if_pos hl]
theorem newW_full {l : List Ent} (r : BitVec 64) (h : validT l = true) (hx : ¬ firstUse l < l.length) (hl : ¬ l.length < 64) : newW l r = ([], 0, 0, 18) := by
  unfold newW; rw [if_neg (by rw [h]; decide), List.getElem?_eq_none (by omega)]
  dsimp only
  rw [if_neg hl]

/-! ### validity -/
theorem valid_iff (l : List Ent) : validT l = true ↔ l.length ≤ 64 ∧ ∀ x ∈ l, badE x = false := by
  unfold validT
  rw [Bool.and_eq_true, decide_eq_true_eq, Bool.not_eq_true', List.any_eq_false]
  constructor
  · rintro ⟨h1, h2⟩
    exact ⟨h1, fun x hx => by have := h2 x hx; simpa using this⟩
  · rintro ⟨h1, h2⟩
    exact ⟨h1, fun x hx => by rw [h2 x hx]; decide⟩
theorem badE_no (x : Ent) : badE x = false ↔ 1 ≤ x.gen ∧ x.gen ≤ 4294967295 ∧ (x.live = false → x.ref = 0#64) := by
  unfold badE
  obtain ⟨g, r, lv⟩ := x
  simp only [Bool.or_eq_false_iff, decide_eq_false_iff_not, Int.not_lt, Bool.and_eq_false_iff, Bool.not_eq_false', bne_eq_false_iff_eq]
  constructor
  · rintro ⟨⟨h1, h2⟩, h3⟩
    refine ⟨h1, h2, fun h => ?_⟩
    rcases h3 with h3 | h3
    · rw [h] at h3; cases h3
    · exact h3
  · rintro ⟨h1, h2, h3⟩
    refine ⟨⟨h1, h2⟩, ?_⟩
    cases lv
    · exact Or.inr (h3 rfl)
    · exact Or.inl rfl
theorem valid_set {l : List Ent} {k : Nat} {x : Ent} (h : validT l = true) (hx : badE x = false) : validT (l.set k x) = true := by
  rw [valid_iff] at h ⊢
  refine ⟨by rw [List.length_set]; exact h.1, fun y hy => ?_⟩
  rcases List.mem_or_eq_of_mem_set hy with hy | rfl
  · exact h.2 y hy
  · exact hx
theorem valid_add {l : List Ent} {x : Ent} (h : validT l = true) (hl : l.length < 64) (hx : badE x = false) : validT (l ++ [x]) = true := by
  rw [valid_iff] at h ⊢
  refine ⟨by rw [List.length_append]; simp; omega, fun y hy => ?_⟩
  rcases List.mem_append.1 hy with hy | hy
  · exact h.2 y hy
  · simp at hy; subst hy; exact hx

/-! ### the life of handles -/
/-- an issued handle: where, with which generation, what it was made for (or set to), whether it is gone -/
structure Iss where
  at_ : Nat
  gen : Int
  ref : BitVec 64
  gone : Bool
/-- what the table says of an issued handle -/
def Known (l : List Ent) (i : Iss) : Prop := ∃ x, l[i.at_]? = some x ∧ 1 ≤ i.gen ∧ i.gen ≤ x.gen ∧ (i.gone = false → x.gen = i.gen ∧ x.live = true ∧ x.ref = i.ref) ∧ (i.gone = true → i.gen < x.gen ∨ x.live = false)
structure Life (l : List Ent) (is : List Iss) : Prop where
  valid : validT l = true
  known : ∀ i ∈ is, Known l i
  apart : ∀ (a b : Nat) (i j : Iss), is[a]? = some i → is[b]? = some j → i.at_ = j.at_ → i.gen = j.gen → a = b
theorem Life.start : Life [] [] := ⟨by decide, (fun i h => by cases h), (fun a b i j h => by simp at h)⟩
theorem entAt_nat (l : List Ent) (k : Nat) : entAt l k = l[k]? := by unfold entAt; rw [if_neg (by omega), Int.toNat_natCast]
theorem Life.check {l : List Ent} {is : List Iss} (h : Life l is) {i : Iss} (hi : i ∈ is) : checkW l i.at_ i.gen = if i.gone = true then 8 else 0 := by
  obtain ⟨x, hx, h1, h2, h3, h4⟩ := h.known i hi
  unfold checkW
  rw [if_neg (by rw [h.valid]; decide), entAt_nat, hx]
  show checkE x i.gen = _
  unfold checkE
  rw [if_neg (by omega)]
  cases hg : i.gone
  · obtain ⟨e1, e2, e3⟩ := h3 hg
    rw [if_neg (by rw [e2]; simp; omega)]
    rfl
  · rw [if_pos (by rcases h4 hg with h | h; exact Or.inl h; exact Or.inr h)]
    rfl
theorem Life.get {l : List Ent} {is : List Iss} (h : Life l is) {i : Iss} (hi : i ∈ is) : getW l i.at_ i.gen = if i.gone = true then (0#64, 8) else (i.ref, 0) := by
  have hc := h.check hi
  cases hg : i.gone
  · rw [hg] at hc
    obtain ⟨x, hx, h1, h2, h3, h4⟩ := h.known i hi
    rw [getW_ok hc (x := x) (by rw [entAt_nat]; exact hx), (h3 hg).2.2]
    rfl
  · rw [hg] at hc
    rw [getW_of hc (by decide)]
    rfl
/-- a new handle -/
theorem Life.new {l : List Ent} {is : List Iss} (h : Life l is) (r : BitVec 64) :
    (∃ (l' : List Ent) (k : Nat) (g : Int), newW l r = (l', (k : Int), g, 0) ∧ l'.length ≤ 64 ∧ Life l' (is ++ [⟨k, g, r, false⟩])) ∨ newW l r = ([], 0, 0, 18) := by
  have key : ∀ (l' : List Ent) (k : Nat) (g : Int), validT l' = true → (∀ i ∈ is, Known l' i) → l'[k]? = some ⟨g, r, true⟩ → 1 ≤ g → (∀ i ∈ is, i.at_ = k → i.gen < g) → Life l' (is ++ [⟨k, g, r, false⟩]) := by
    intro l' k g hv hk hg h1 hlt
    refine ⟨hv, fun i hi => ?_, fun a b i j ha hb hij hgij => ?_⟩
    · rcases List.mem_append.1 hi with hi | hi
      · exact hk i hi
      · simp at hi; subst hi
        exact ⟨_, hg, h1, Int.le_refl _, fun _ => ⟨rfl, rfl, rfl⟩, fun e => by cases e⟩
    · by_cases hal : a < is.length
      · rw [List.getElem?_append_left hal] at ha
        by_cases hbl : b < is.length
        · rw [List.getElem?_append_left hbl] at hb
          exact h.apart a b i j ha hb hij hgij
        · rw [List.getElem?_append_right (by omega)] at hb
          have : j = ⟨k, g, r, false⟩ := by
            rcases Nat.eq_zero_or_pos (b - is.length) with e | e
            · rw [e] at hb; simpa using hb.symm
            · rw [List.getElem?_eq_none (by simp; omega)] at hb; cases hb
          subst this
          have := hlt i (List.mem_of_getElem? ha) hij
          simp at hgij
          omega
      · rw [List.getElem?_append_right (by omega)] at ha
        have hi : a = is.length ∧ i = ⟨k, g, r, false⟩ := by
          rcases Nat.eq_zero_or_pos (a - is.length) with e | e
          · rw [e] at ha; exact ⟨by omega, by simpa using ha.symm⟩
          · rw [List.getElem?_eq_none (by simp; omega)] at ha; cases ha
        obtain ⟨ha', rfl⟩ := hi
        by_cases hbl : b < is.length
        · rw [List.getElem?_append_left hbl] at hb
          have := hlt j (List.mem_of_getElem? hb) hij.symm
          simp at hgij
          omega
        · rw [List.getElem?_append_right (by omega)] at hb
          rcases Nat.eq_zero_or_pos (b - is.length) with e | e
          · omega
          · rw [List.getElem?_eq_none (by simp; omega)] at hb; cases hb
  have hlen := ((valid_iff l).1 h.valid).1
  by_cases hu : firstUse l < l.length
  · left
    obtain ⟨x, hx, hux⟩ := firstUse_at l hu
    have hb := (badE_no x).1 (((valid_iff l).1 h.valid).2 x (List.mem_of_getElem? hx))
    have hux2 : x.live = false ∧ x.gen ≠ 4294967295 := by
      unfold useE at hux
      rw [Bool.and_eq_true, Bool.not_eq_true', bne_iff_ne] at hux
      exact hux
    refine ⟨_, _, _, newW_use r h.valid hx, by rw [List.length_set]; exact hlen, ?_⟩
    refine key _ _ _ (valid_set h.valid ((badE_no _).2 ⟨by dsimp only; omega, by dsimp only; omega, fun e => by cases e⟩)) (fun i hi => ?_) (List.getElem?_set_self hu) (by omega) (fun i hi hik => ?_)
    · obtain ⟨y, hy, h1, h2, h3, h4⟩ := h.known i hi
      by_cases hik : i.at_ = firstUse l
      · rw [hik, hx] at hy
        obtain rfl : x = y := Option.some.inj hy
        refine ⟨⟨x.gen + 1, r, true⟩, by rw [hik]; exact List.getElem?_set_self hu, h1, by dsimp only; omega, fun hg => ?_, fun _ => Or.inl (by dsimp only; omega)⟩
        have := (h3 hg).2.1
        rw [hux2.1] at this; cases this
      · exact ⟨y, by rw [List.getElem?_set_ne (fun e => hik e.symm)]; exact hy, h1, h2, h3, h4⟩
    · obtain ⟨y, hy, h1, h2, h3, h4⟩ := h.known i hi
      rw [hik, hx] at hy
      obtain rfl : x = y := Option.some.inj hy
      omega
  · by_cases hl : l.length < 64
    · left
      refine ⟨_, _, _, newW_add r h.valid hu hl, by rw [List.length_append]; simp; omega, ?_⟩
      refine key _ _ _ (valid_add h.valid hl ((badE_no _).2 ⟨by dsimp only; omega, by dsimp only; omega, fun e => by cases e⟩)) (fun i hi => ?_) (by rw [List.getElem?_append_right (by omega)]; simp) (by omega) (fun i hi hik => ?_)
      · obtain ⟨y, hy, h1, h2, h3, h4⟩ := h.known i hi
        have hlt := (List.getElem?_eq_some_iff.1 hy).1
        exact ⟨y, by rw [List.getElem?_append_left hlt]; exact hy, h1, h2, h3, h4⟩
      · obtain ⟨y, hy, h1, h2, h3, h4⟩ := h.known i hi
        have hlt := (List.getElem?_eq_some_iff.1 hy).1
        omega
    · exact Or.inr (newW_full r h.valid hu hl)
/-- two issued handles of one entry that both live are one -/
theorem Life.only {l : List Ent} {is : List Iss} (h : Life l is) {a b : Nat} {i j : Iss} (ha : is[a]? = some i) (hb : is[b]? = some j) (hij : i.at_ = j.at_) (hi : i.gone = false) (hj : j.gone = false) : a = b := by
  obtain ⟨x, hx, h1, h2, h3, h4⟩ := h.known i (List.mem_of_getElem? ha)
  obtain ⟨y, hy, k1, k2, k3, k4⟩ := h.known j (List.mem_of_getElem? hb)
  rw [hij, hy] at hx
  obtain rfl : y = x := Option.some.inj hx
  exact h.apart a b i j ha hb hij (by rw [← (h3 hi).1, ← (k3 hj).1])
/-- an entry is changed: its handle that lives, too -/
theorem Life.turn {l : List Ent} {is : List Iss} (h : Life l is) {k : Nat} {i : Iss} (hk : is[k]? = some i) (hg : i.gone = false) (r : BitVec 64) (lv : Bool) (hr : lv = false → r = 0#64) (r' : BitVec 64) (hr' : lv = true → r' = r) :
    Life (l.set i.at_ ⟨i.gen, r, lv⟩) (is.set k ⟨i.at_, i.gen, r', !lv⟩) := by
  obtain ⟨x, hx, h1, h2, h3, h4⟩ := h.known i (List.mem_of_getElem? hk)
  have hxl := (List.getElem?_eq_some_iff.1 hx).1
  have hkl := (List.getElem?_eq_some_iff.1 hk).1
  obtain ⟨e1, e2, e3⟩ := h3 hg
  have hb := (badE_no x).1 (((valid_iff l).1 h.valid).2 x (List.mem_of_getElem? hx))
  refine ⟨valid_set h.valid ((badE_no _).2 ⟨by dsimp only; omega, by dsimp only; omega, hr⟩), fun j hj => ?_, fun a b i' j' ha hb' => ?_⟩
  · obtain ⟨a, ha⟩ := List.getElem?_of_mem hj
    by_cases hak : a = k
    · subst hak
      rw [List.getElem?_set_self hkl] at ha
      obtain rfl := Option.some.inj ha
      refine ⟨_, List.getElem?_set_self hxl, h1, Int.le_refl _, fun hl => ?_, fun hl => ?_⟩
      · cases lv
        · cases hl
        · exact ⟨rfl, rfl, (hr' rfl).symm⟩
      · cases lv
        · exact Or.inr rfl
        · cases hl
    · rw [List.getElem?_set_ne (fun e => hak e.symm)] at ha
      obtain ⟨y, hy, k1, k2, k3, k4⟩ := h.known j (List.mem_of_getElem? ha)
      by_cases hij : j.at_ = i.at_
      · rw [hij, hx] at hy
        obtain rfl : x = y := Option.some.inj hy
        refine ⟨_, by rw [hij]; exact List.getElem?_set_self hxl, k1, by dsimp only; omega, fun hl => ?_, fun hl => ?_⟩
        · exact absurd (h.only ha hk hij hl hg) hak
        · left
          dsimp only
          rcases k4 hl with h | h
          · omega
          · rw [e2] at h; cases h
      · exact ⟨y, by rw [List.getElem?_set_ne (fun e => hij e.symm)]; exact hy, k1, k2, k3, k4⟩
  · have hsame : ∀ (a : Nat) (i' : Iss), (is.set k ⟨i.at_, i.gen, r', !lv⟩)[a]? = some i' → ∃ i0, is[a]? = some i0 ∧ i0.at_ = i'.at_ ∧ i0.gen = i'.gen := by
      intro a i' ha
      by_cases hak : a = k
      · subst hak
        rw [List.getElem?_set_self hkl] at ha
        obtain rfl := Option.some.inj ha
        exact ⟨i, hk, rfl, rfl⟩
      · rw [List.getElem?_set_ne (fun e => hak e.symm)] at ha
        exact ⟨i', ha, rfl, rfl⟩
    obtain ⟨i0, q1, q2, q3⟩ := hsame a i' ha
    obtain ⟨j0, s1, s2, s3⟩ := hsame b j' hb'
    intro hij hgij
    exact h.apart a b i0 j0 q1 s1 (by rw [q2, s2, hij]) (by rw [q3, s3, hgij])
/-- what Set and Delete do with an issued handle -/
theorem Life.set {l : List Ent} {is : List Iss} (h : Life l is) {k : Nat} {i : Iss} (hk : is[k]? = some i) (hg : i.gone = false) (r : BitVec 64) :
    setW l i.at_ i.gen r = (l.set i.at_ ⟨i.gen, r, true⟩, 0) ∧ Life (l.set i.at_ ⟨i.gen, r, true⟩) (is.set k ⟨i.at_, i.gen, r, false⟩) := by
  have hc := h.check (List.mem_of_getElem? hk)
  rw [hg, if_neg (by decide)] at hc
  refine ⟨?_, h.turn hk hg r true (fun e => by cases e) r (fun _ => rfl)⟩
  unfold setW
  rw [if_pos hc, Int.toNat_natCast]
theorem Life.del {l : List Ent} {is : List Iss} (h : Life l is) {k : Nat} {i : Iss} (hk : is[k]? = some i) (hg : i.gone = false) :
    delW l i.at_ i.gen = (l.set i.at_ ⟨i.gen, 0#64, false⟩, 0) ∧ Life (l.set i.at_ ⟨i.gen, 0#64, false⟩) (is.set k ⟨i.at_, i.gen, i.ref, true⟩) := by
  have hc := h.check (List.mem_of_getElem? hk)
  rw [hg, if_neg (by decide)] at hc
  refine ⟨?_, h.turn hk hg 0#64 false (fun _ => rfl) i.ref (fun e => by cases e)⟩
  unfold delW
  rw [if_pos hc, Int.toNat_natCast]
theorem Life.gone_set {l : List Ent} {is : List Iss} (h : Life l is) {k : Nat} {i : Iss} (hk : is[k]? = some i) (hg : i.gone = true) (r : BitVec 64) : setW l i.at_ i.gen r = ([], 8) := by
  have hc := h.check (List.mem_of_getElem? hk)
  rw [hg] at hc
  unfold setW
  rw [hc]; rfl
theorem Life.gone_del {l : List Ent} {is : List Iss} (h : Life l is) {k : Nat} {i : Iss} (hk : is[k]? = some i) (hg : i.gone = true) : delW l i.at_ i.gen = ([], 8) := by
  have hc := h.check (List.mem_of_getElem? hk)
  rw [hg] at hc
  unfold delW
  rw [hc]; rfl
end Go.Proofs.Ytfcghhpbjnlldaa

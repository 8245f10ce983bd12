/- A map of sorts that the call made, read as a table; the laws at its operations. -/
import Derived.Test.YtpmdgmgcbminaaaSafe11
import Derived.Maps.Own
import Derived.Maps.OwnOps
import Derived.Maps.OwnSet
import Derived.Deep.LoopGhost
namespace Go.Proofs.Ytpmdgmgcbminaaa
open Go.ChangeShapes Go.WideShapes Go.RowKit Go.Maps Words

theorem lawInt : Keyed Try.prog 3 := int_keyed Try.underlying3
/-- an element stands for itself -/
def tblR (v : Value) : Option (DataW Value × List MemPlace) := some (.held v, [])
def KL (j : Nat) : Lit := .int .i64 (j : Int)
theorem KL_ne {i j : Nat} (h : i ≠ j) : KL i ≠ KL j := fun e => h (by injection e with _ e; omega)
theorem KL_key (j : Nat) : WideAt.IsKeyLit (KL j) := trivial
theorem keyOf_KL (j : Nat) (hj : j ≤ 1000) : keyOf Try.prog 3 (.int .i64 (j : Int)) = some (KL j) := keyOf_int_mk Try.underlying3 (WalkArith.wf_i64 (by omega))
/-- a map's datum reads as a table -/
def IsTbl (D : DataW Value) (m : Tbl) : Prop := IsMap D ∧ ∀ j : Nat, (m j = none → Maps.has D (KL j) = false) ∧ ∀ s, m j = some s → Maps.has D (KL j) = true ∧ ∀ z, D.atKey (KL j) z = .held (.agg (PS s))
theorem IsTbl.start : IsTbl (.map []) (fun _ => none) := ⟨isMap_empty, fun _ => ⟨fun _ => rfl, fun _ h => (by cases h)⟩⟩
theorem IsTbl.put {D : DataW Value} {m : Tbl} (h : IsTbl D m) (k : Nat) (s : List Srt) : IsTbl (D.put (KL k) (.held (.agg (PS s)))) (m.put k s) := by
  refine ⟨h.1.put _ _, fun j => ?_⟩
  by_cases e : j = k
  · subst e
    rw [m.put_self]
    refine ⟨fun h => (by cases h), fun t ht => ?_⟩
    cases ht
    exact ⟨has_put_same h.1 (KL_key _) _, fun z => atKey_put_same h.1 (KL_key _) _ z⟩
  · rw [m.put_ne e]
    refine ⟨fun hn => by rw [has_put_other (KL_ne e)]; exact (h.2 j).1 hn, fun t ht => ?_⟩
    rw [has_put_other (KL_ne e)]
    exact ⟨((h.2 j).2 t ht).1, fun z => by rw [atKey_put_other (KL_ne e)]; exact ((h.2 j).2 t ht).2 z⟩
theorem IsTbl.has {D : DataW Value} {m : Tbl} (h : IsTbl D m) (j : Nat) : Maps.has D (KL j) = (m j).isSome := by
  cases hm : m j with
  | none => exact (h.2 j).1 hm
  | some s => exact ((h.2 j).2 s hm).1
theorem IsTbl.at_ {D : DataW Value} {m : Tbl} (h : IsTbl D m) (j : Nat) : D.atKey (KL j) (.held (.agg (PS sort0))) = .held (.agg (PS ((m j).getD sort0))) := by
  cases hm : m j with
  | none => exact atKey_of_not_has ((h.2 j).1 hm) _
  | some s => exact ((h.2 j).2 s hm).2 _
/-- a block holds a table, of at most n entries -/
def OwnsT (w : World) (b : Nat) (m : Tbl) (n : Nat) : Prop := ∃ D, w.ownsMap Try.prog 3 tblR b n D ∧ IsTbl D m
section
variable {w w' : World} {b n : Nat} {m : Tbl}
theorem OwnsT.lt (h : OwnsT w b m n) : b < w.heap.size := let ⟨_, h, _⟩ := h; h.lt
theorem OwnsT.kept {row : Option Nat} (h : OwnsT w b m n) (hg : w.grownBy w' row) (hne : some b ≠ row) : OwnsT w' b m n := let ⟨D, h, t⟩ := h; ⟨D, h.kept hg hne, t⟩
theorem OwnsT.below (h : OwnsT w b m n) (hb : Below w.heap.size w w') : OwnsT w' b m n := h.kept (row := none) ⟨hb.os, hb.tape, hb.output, hb.size, fun i hi _ => hb.block i hi⟩ (by simp)
theorem OwnsT.alloc (h : OwnsT w b m n) (o : Obj) : OwnsT (w.alloc o) b m n := let ⟨D, h, t⟩ := h; ⟨D, h.alloc o, t⟩
theorem OwnsT.made (w : World) : OwnsT (w.alloc (.map #[] 0)) w.heap.size (fun _ => none) 0 := ⟨_, World.ownsMap_made w _ _ _, IsTbl.start⟩
end
theorem zeroSorts (w : World) : (zeroValue 78).run Try.prog w = .ok (.agg (PS sort0)) w := by kernel_rfl
section
variable {w : World} {ops : Array Oper} {rest : List Oper} {o : Oper} {a : Act} {Q : Exit → Act → World → Prop} {b n : Nat} {tb : Tbl}
theorem wpList_look (hg : o.guard = none) {m x : Operand} (hop : o.op = Op.lookup 79 m x true) (hm : a.eval m = .map (some b)) (hown : OwnsT w b tb n) {j : Nat} {ov : Option (List Srt)} (hv : tb j = ov) (hx : a.eval x = .int .i64 (j : Int)) (hj : j ≤ 1000)
    (hK : wpList Try.prog ops Q rest (a.put o.dst (.tuple #[.agg (PS (ov.getD sort0)), .bool ov.isSome])) w) : wpList Try.prog ops Q (o :: rest) a w := by
  subst hv
  obtain ⟨D, hD, ht⟩ := hown
  refine wpList_lookup_own_ok _ hg m x _ hop 3 78 lawInt Try.underlying79 tblR (zeroSorts w) (.held (.agg (PS sort0))) [] rfl b n D hm hD _ (KL j) hx (keyOf_KL j hj) ?_
  intro v ps hv
  rw [ht.at_] at hv
  simp only [tblR, Option.some.injEq, Prod.mk.injEq, DataW.held.injEq] at hv
  obtain ⟨rfl, -⟩ := hv
  rw [ht.has]
  exact hK
theorem wpList_tput (hg : o.guard = none) {m x v : Operand} (hop : o.op = Op.mapUpdate 79 m x v) (hm : a.eval m = .map (some b)) (hown : OwnsT w b tb n) (hn : n < maxLen) {j : Nat} (hx : a.eval x = .int .i64 (j : Int)) (hj : j ≤ 1000) {s : List Srt} (hv : a.eval v = .agg (PS s))
    (hK : ∀ w', OwnsT w' b (tb.put j s) (n + 1) → w.grownBy w' (some b) → wpList Try.prog ops Q rest (a.put o.dst undef) w') : wpList Try.prog ops Q (o :: rest) a w := by
  obtain ⟨D, hD, ht⟩ := hown
  exact wpList_mapUpdate_own _ hg m x v _ hop 3 78 lawInt Try.underlying79 tblR b n D hm hD hn _ _ (KL j) hx hv (keyOf_KL j hj) (.held (.agg (PS s))) [] rfl (fun w' h1 h2 => hK w' ⟨_, h1, ht.put j s⟩ h2)
theorem wpList_tins (hg : o.guard = none) {m x v : Operand} (hop : o.op = Op.insert 79 m x v) (hm : a.eval m = .map (some b)) (hown : OwnsT w b tb n) (hn : n < maxLen) {j : Nat} (hx : a.eval x = .int .i64 (j : Int)) (hj : j ≤ 1000) {s : List Srt} (hv : a.eval v = .agg (PS s))
    (hK : ∀ w', OwnsT w' b (tb.put j s) (n + 1) → w.grownBy w' (some b) → wpList Try.prog ops Q rest (a.put o.dst undef) w') : wpList Try.prog ops Q (o :: rest) a w := by
  obtain ⟨D, hD, ht⟩ := hown
  refine wpList_plain hg fun K' hK' => ?_
  obtain ⟨w', hrun, r1, r2⟩ := hD.update lawInt Try.underlying79 hn (keyOf_KL j hj) (val := .agg (PS s)) (d := .held (.agg (PS s))) (ps := []) rfl
  unfold Oper.wp
  simp [execOp, hop, hm, hx, hv, hrun, Result.andThen]
  exact hK' _ _ (hK w' ⟨_, r1, ht.put j s⟩ r2)
end
/-- two tables of registers are compared -/
theorem sorts_eq (x y : List Srt) (hx : x.length = 8) (hy : y.length = 8) (w : World) : (Op.equalIn 10000 78 (.agg (PS x)) (.agg (PS y))).run Try.prog w = .ok (decide (x = y)) w := by
  obtain ⟨inf, hi⟩ : ∃ inf, Try.prog.info? 76 = some inf := Option.isSome_iff_exists.1 (by kernel_rfl)
  rw [run_equalIn_array w 9999 _ _ Try.underlying78 hi]
  have hc : Try.prog.cellsOf 76 = 2 := by kernel_rfl
  have at_ : ∀ {u : List Srt}, u.length = 8 → ∀ j, j < 8 → u[j]? = some (u[j]?.getD .wd) := fun hu j hj => by rw [List.getElem?_eq_getElem (by omega)]; rfl
  have := run_eqItems_all (P := Try.prog) (w := w) (d := 9999) (c := 2) (e := 76) (xs := PS x) (ys := PS y) (v := srtV) (a := fun j => x[j]?.getD .wd) (b := fun j => y[j]?.getD .wd) (fun p q => srt_eq 9997 p q w) (List.range 8) (fun j hj => ⟨part_P (at_ hx j (List.mem_range.1 hj)) w, part_P (at_ hy j (List.mem_range.1 hj)) w⟩)
  rw [list_all_eq hx hy] at this
  simpa [hc] using this
theorem after_val {s : List Srt} (hs : s.length = 8) (x : NI) (hx : formedI x = true) (i : Nat) (w : World) :
    Calls Try.prog 35 #[.agg (PS s), insV x, .int .i64 i] w fun e w' => e = .returned (.tuple #[.agg (PS (aft s x i).1), .bool (aft s x i).2]) ∧ Below w.heap.size w w' := by
  obtain ⟨op, a, b, c, k⟩ := x
  obtain ⟨ho, ha, hb, hc⟩ := (formedI_iff _).1 hx
  dsimp only at ho ha hb hc
  obtain ⟨an, rfl⟩ : ∃ an : Nat, a = an := ⟨_, (Int.toNat_of_nonneg ha.1).symm⟩
  obtain ⟨bn, rfl⟩ : ∃ an : Nat, b = an := ⟨_, (Int.toNat_of_nonneg hb.1).symm⟩
  obtain ⟨cn, rfl⟩ : ∃ an : Nat, c = an := ⟨_, (Int.toNat_of_nonneg hc.1).symm⟩
  have at_ : ∀ j, j < 8 → s[j]? = some (s[j]?.getD .wd) := fun j hj => by rw [List.getElem?_eq_getElem (by omega)]; rfl
  have := after_any s hs op an bn cn (bn % 8) (by omega) (by omega) (by omega) rfl k i _ _ _ (at_ an (by omega)) (at_ (bn % 8) (by omega)) (at_ cn (by omega)) w
  unfold aft
  simp only [Int.toNat_natCast]
  exact this
/-! ### what holds of the program's table -/
structure SInv (l : List NI) (n : Nat) (tb : Tbl) : Prop where
  len : ∀ k s, tb k = some s → s.length = 8 ∧ k ≤ n
  low : ∀ X, Closed l X → tb.Under X
  zero : ∃ s, tb 0 = some s ∧ SLe sort0 s
def Stab (l : List NI) (tb : Tbl) (i : Nat) : Prop := ∀ x s, l[i]? = some x → tb i = some s → (aft s x i).2 = true ∧ ∀ k : Nat, (k : Int) ∈ waysL x.op x.k i → ∃ u, tb k = some u ∧ joinR u (aft s x i).1 = u
section
variable {l : List NI} {n : Nat} {tb : Tbl} {i k : Nat} {x : NI} {s u : List Srt}
theorem SInv.start (l : List NI) (n : Nat) : SInv l n (Tbl.put (fun _ => none) 0 sort0) := by
  refine ⟨fun k s h => ?_, fun X hX => ?_, ⟨sort0, Tbl.put_self _ _ _, SLe.refl rfl⟩⟩
  · by_cases e : k = 0
    · subst e; rw [Tbl.put_self] at h; cases h; exact ⟨rfl, Nat.zero_le _⟩
    · rw [Tbl.put_ne _ e] at h; cases h
  · obtain ⟨z, hz, hl⟩ := hX.start
    exact Tbl.Under.put (fun _ _ h => by cases h) hz hl
theorem SInv.new (h : SInv l n tb) (hf : formedI x = true) (hx : l[i]? = some x) (hs : tb i = some s) (hk : (k : Int) ∈ waysL x.op x.k i) (hn : tb k = none) (hkn : k ≤ n) : SInv l n (tb.put k (aft s x i).1) := by
  refine ⟨fun j t ht => ?_, fun X hX => (h.low X hX).new hX hf hx hs hk, ?_⟩
  · by_cases e : j = k
    · subst e; rw [Tbl.put_self] at ht; cases ht; exact ⟨aft_len (h.len i s hs).1 x i, hkn⟩
    · rw [Tbl.put_ne _ e] at ht; exact h.len j t ht
  · obtain ⟨z, hz, hl⟩ := h.zero
    refine ⟨z, ?_, hl⟩
    rw [Tbl.put_ne _ (fun e => by subst e; rw [hz] at hn; cases hn)]
    exact hz
theorem SInv.join (h : SInv l n tb) (hf : formedI x = true) (hx : l[i]? = some x) (hs : tb i = some s) (hk : (k : Int) ∈ waysL x.op x.k i) (hu : tb k = some u) : SInv l n (tb.put k (joinR u (aft s x i).1)) := by
  have hul := h.len k u hu
  refine ⟨fun j t ht => ?_, fun X hX => (h.low X hX).join hX hf hx hs hk hu, ?_⟩
  · by_cases e : j = k
    · subst e; rw [Tbl.put_self] at ht; cases ht; exact ⟨by rw [joinR_len]; exact hul.1, hul.2⟩
    · rw [Tbl.put_ne _ e] at ht; exact h.len j t ht
  · obtain ⟨z, hz, hl⟩ := h.zero
    by_cases e : 0 = k
    · subst e
      obtain rfl : z = u := Option.some.inj (hz.symm.trans hu)
      exact ⟨_, Tbl.put_self _ _ _, hl.trans (le_joinR hul.1 (aft_len (h.len i s hs).1 x i))⟩
    · exact ⟨z, by rw [Tbl.put_ne _ e]; exact hz, hl⟩
theorem SInv.bad (h : SInv l n tb) (hf : formedI x = true) (hx : l[i]? = some x) (hs : tb i = some s) (hb : (aft s x i).2 = false) : ¬ Safe l := by
  rintro ⟨X, hX⟩
  have := (h.low X hX).ok hX hf hx hs
  rw [hb] at this
  cases this
theorem SInv.closed (h : SInv l n tb) (hl : l.length = n) (hst : ∀ i, i < n → Stab l tb i) : Safe l := by
  refine ⟨tb, fun k s hs => (h.len k s hs).1, h.zero, fun i x s hx hs => ?_, fun i x s k hx hs hk => ?_⟩
  · exact (hst i (by have := (List.getElem?_eq_some_iff.1 hx).1; omega) x s hx hs).1
  · obtain ⟨u, hu, hj⟩ := (hst i (by have := (List.getElem?_eq_some_iff.1 hx).1; omega) x s hx hs).2 k hk
    exact ⟨u, hu, joinR_same (h.len k u hu).1 (aft_len (h.len i s hs).1 x i) hj⟩
theorem Stab.none (h : tb i = .none) : Stab l tb i := fun _ s _ hs => by rw [h] at hs; cases hs
theorem ways_nat (ht : targetsI n x = true) (hi : i < n) {v : Int} (hv : v ∈ waysL x.op x.k i) : ∃ k : Nat, v = k ∧ k ≤ n := by
  have hu := U_nonneg x.k
  unfold targetsI jumps at ht
  unfold waysL at hv
  have hk : (x.op = 9 ∨ x.op = 10) → U x.k ≤ n := fun h => by simpa [h] using ht
  split at hv
  · cases hv
  split at hv
  · have := hk (Or.inl (by assumption))
    simp only [List.mem_singleton] at hv
    exact ⟨(U x.k).toNat, by omega, by omega⟩
  split at hv
  · have := hk (Or.inr (by assumption))
    simp only [List.mem_cons, List.not_mem_nil, or_false] at hv
    rcases hv with rfl | rfl
    · exact ⟨i + 1, by omega, by omega⟩
    · exact ⟨(U x.k).toNat, by omega, by omega⟩
  · simp only [List.mem_singleton] at hv
    exact ⟨i + 1, by omega, by omega⟩
end
open Classical in
/-- what Safe answers -/
noncomputable def safeC (g : Int) (l : List NI) : Bool := formedC g l && (l.all (soundI l.length) && decide (Safe l))
theorem safeC_bad {g : Int} {l : List NI} (h : formedC g l = false) : safeC g l = false := by unfold safeC; rw [h]; rfl
theorem safeC_no {g : Int} {l : List NI} {n : Nat} (hl : l.length = n) (h : l.all (soundI n) = false) : safeC g l = false := by unfold safeC; rw [hl, h]; simp
theorem safeC_uns {g : Int} {l : List NI} (h : ¬ Safe l) : safeC g l = false := by unfold safeC; simp [h]
theorem safeC_yes {g : Int} {l : List NI} {n : Nat} (hf : formedC g l = true) (hl : l.length = n) (hs : l.all (soundI n) = true) (h : Safe l) : safeC g l = true := by unfold safeC; rw [hf, hl, hs]; simp [h]
end Go.Proofs.Ytpmdgmgcbminaaa

/- Plain laws of words of 64 bits, as bit vectors: no program in sight. -/
import Derived.WalkKit
import Derived.Handy
import Derived.Lib.Hide
import Derived.Deep.Draws
import Derived.Laws.OwnMore
import Derived.Laws.AppendOwnNone
import Derived.Maps.AppendAt
import Derived.Test.YtnnchinpmnpfiaaDoorRows
import Derived.ProofKit
import Derived.OpenShut
import Derived.Deep.Slices
import Derived.Deep.Fields
import Derived.Deep.QuietTactic
import Derived.BigQuiet
import Derived.WalkSpells
namespace Go.Proofs.YtnnchinpmnpfiaaDoor.Words

/-- the word of n bits 1 -/
def ones (n : Nat) : BitVec 64 := BitVec.ofNat 64 (2 ^ min n 64 - 1)

theorem getLsbD_ones (n i : Nat) : (ones n).getLsbD i = (decide (i < n) && decide (i < 64)) := by
  unfold ones
  rw [BitVec.getLsbD_ofNat, Nat.testBit_two_pow_sub_one]
  by_cases h1 : i < n <;> by_cases h2 : i < 64 <;> simp [h1, h2] <;> omega

theorem ones_zero : ones 0 = 0#64 := rfl

theorem ones_shl (k : Nat) (h : k < 64) : (ones k <<< 1) ||| 1#64 = ones (k + 1) := by
  apply BitVec.eq_of_getLsbD_eq
  intro i hi
  simp only [BitVec.getLsbD_or, BitVec.getLsbD_shiftLeft, getLsbD_ones, BitVec.getLsbD_one, hi, decide_true, Bool.true_and, Bool.and_true]
  by_cases h0 : i = 0
  · subst h0; simp
  · by_cases h1 : i < k + 1
    · have h2 : i - 1 < k := by omega
      have h3 : i - 1 < 64 := by omega
      have h4 : ¬ i < 1 := by omega
      simp [h1, h2, h3, h4]
    · have h2 : ¬ i - 1 < k := by omega
      simp [h1, h2, h0]

theorem toNat_ones (k : Nat) (h : k ≤ 64) : (ones k).toNat = 2 ^ k - 1 := by
  unfold ones
  rw [BitVec.toNat_ofNat, Nat.min_eq_left h]
  apply Nat.mod_eq_of_lt
  have : 2 ^ k ≤ 2 ^ 64 := Nat.pow_le_pow_right (by decide) h
  have : 0 < 2 ^ k := Nat.two_pow_pos k
  omega

theorem ones_dbl (k : Nat) (h : k < 64) : 2#64 * ones k + 1#64 = ones (k + 1) := by
  apply BitVec.eq_of_toNat_eq
  have h1 : 2 ^ (k + 1) = 2 * 2 ^ k := by rw [Nat.pow_succ]; omega
  have h2 : 2 ^ (k + 1) ≤ 2 ^ 64 := Nat.pow_le_pow_right (by decide) h
  have h3 : 0 < 2 ^ k := Nat.two_pow_pos k
  rw [BitVec.toNat_add, BitVec.toNat_mul, toNat_ones k (by omega), toNat_ones (k + 1) (by omega), h1]
  simp only [BitVec.toNat_ofNat]
  omega

theorem ones_big (n : Nat) (h : 64 ≤ n) : ones n = ones 64 := by
  unfold ones; rw [Nat.min_eq_right h]; rfl

/-- the two tests for 'at most n bits' are one -/
theorem fits_iff (v m : BitVec 64) : v &&& ~~~m = 0#64 ↔ v &&& m = v := by
  constructor
  · intro h
    apply BitVec.eq_of_getLsbD_eq
    intro i hi
    have := congrArg (fun b => b.getLsbD i) h
    simp only [BitVec.getLsbD_and, BitVec.getLsbD_not, hi, decide_true, Bool.true_and, BitVec.getLsbD_zero] at this ⊢
    cases hv : v.getLsbD i <;> cases hm : m.getLsbD i <;> simp_all
  · intro h
    apply BitVec.eq_of_getLsbD_eq
    intro i hi
    have := congrArg (fun b => b.getLsbD i) h
    simp only [BitVec.getLsbD_and, BitVec.getLsbD_not, hi, decide_true, Bool.true_and, BitVec.getLsbD_zero] at this ⊢
    cases hv : v.getLsbD i <;> cases hm : m.getLsbD i <;> simp_all

/-! ### how the walk spells operations on words: 'U x' is the number of the word x; simp does not look into it -/
def U (x : BitVec 64) : Int := x.toNat
theorem U_range (x : BitVec 64) : 0 ≤ U x ∧ U x < 18446744073709551616 := by
  have := x.isLt
  unfold U; omega
theorem U_nonneg (x : BitVec 64) : 0 ≤ U x := (U_range x).1
theorem U_inj {x y : BitVec 64} (h : U x = U y) : x = y := by
  unfold U at h
  apply BitVec.eq_of_toNat_eq
  omega
theorem U_eq (x y : BitVec 64) : (U x == U y) = (x == y) := by
  rw [Bool.eq_iff_iff]
  simp only [beq_iff_eq]
  exact ⟨U_inj, congrArg U⟩
theorem U_ne (x y : BitVec 64) : (U x != U y) = (x != y) := by
  show (!(U x == U y)) = !(x == y)
  rw [U_eq]
theorem U_ofNat (n : Nat) (h : n < 18446744073709551616) : U (BitVec.ofNat 64 n) = (n : Int) := by
  unfold U
  rw [BitVec.toNat_ofNat, Nat.mod_eq_of_lt (by simpa using h)]
theorem U_wf (x : BitVec 64) : (Lit.int .u64 (U x)).wf = true := by
  have := U_range x
  exact WalkArith.wf_u64 (by omega)
theorem U_of (n : Int) (h : (Lit.int .u64 n).wf = true) : ∃ x : BitVec 64, n = U x := by
  have hr : 0 ≤ n ∧ n ≤ 18446744073709551615 := by
    simp [Lit.wf, IntKind.min, IntKind.max, IntKind.signed, IntKind.bits] at h
    omega
  refine ⟨BitVec.ofNat 64 n.toNat, ?_⟩
  rw [U_ofNat _ (by omega)]
  omega
theorem wrap_U (x : BitVec 64) : IntKind.u64.wrap (U x) = U x := by
  have := U_range x
  apply IntWalk.u64_in
  omega
theorem wrap_ofInt (n : Int) : IntKind.u64.wrap n = U (BitVec.ofInt 64 n) := by
  unfold U
  rw [BitVec.toNat_ofInt]
  simp [IntKind.wrap, IntKind.bits, IntKind.signed]
  omega
theorem ofInt_U (x : BitVec 64) : BitVec.ofInt 64 (U x) = x := by
  unfold U
  rw [BitVec.ofInt_natCast]; simp
theorem bits_and (x y : BitVec 64) : bits .and .u64 (U x) (U y) = U (x &&& y) := by
  show IntKind.u64.wrap (U ((BitVec.ofInt 64 (U x)) &&& (BitVec.ofInt 64 (U y)))) = _
  rw [ofInt_U, ofInt_U, wrap_U]
theorem bits_or (x y : BitVec 64) : bits .or .u64 (U x) (U y) = U (x ||| y) := by
  show IntKind.u64.wrap (U ((BitVec.ofInt 64 (U x)) ||| (BitVec.ofInt 64 (U y)))) = _
  rw [ofInt_U, ofInt_U, wrap_U]
theorem bits_andNot (x y : BitVec 64) : bits .andNot .u64 (U x) (U y) = U (x &&& ~~~y) := by
  show IntKind.u64.wrap (U ((BitVec.ofInt 64 (U x)) &&& ~~~(BitVec.ofInt 64 (U y)))) = _
  rw [ofInt_U, ofInt_U, wrap_U]
theorem bits_or_one (x : BitVec 64) : bits .or .u64 (U x) 1 = U (x ||| 1#64) := bits_or x 1#64
theorem bits_and_one (x : BitVec 64) : bits .and .u64 (U x) 1 = U (x &&& 1#64) := bits_and x 1#64
theorem dbl_one (x : BitVec 64) : IntKind.u64.wrap (IntKind.u64.wrap (2 * U x) + 1) = U (2#64 * x + 1#64) := by
  rw [wrap_ofInt, wrap_ofInt]
  have h : BitVec.ofInt 64 (U (BitVec.ofInt 64 (2 * U x)) + 1) = 2#64 * x + 1#64 := by
    rw [BitVec.ofInt_add, ofInt_U, BitVec.ofInt_mul, ofInt_U]
    rfl
  rw [h]

theorem shr_U (x : BitVec 64) (n : Nat) : U x / 2 ^ n = U (x >>> n) := by
  unfold U
  rw [BitVec.toNat_ushiftRight, Nat.shiftRight_eq_div_pow]
  simp
theorem shl_U (x : BitVec 64) (n : Nat) : IntKind.u64.wrap (U x * 2 ^ n) = U (x <<< n) := by
  rw [wrap_ofInt]
  congr 1
  apply BitVec.eq_of_toNat_eq
  unfold U
  rw [BitVec.toNat_ofInt, BitVec.toNat_shiftLeft, Nat.shiftLeft_eq]
  have : ((x.toNat : Int) * 2 ^ n) = ((x.toNat * 2 ^ n : Nat) : Int) := by simp
  rw [this]
  norm_cast
theorem shr_any (yk : IntKind) (x : BitVec 64) (y : Int) (h : 0 ≤ y) : Op.shift .shr .u64 (U x) yk y = pure (.int .u64 (U (x >>> y.toNat))) := by
  rw [shift_shr_any _ _ _ _ h]
  have e : IntKind.u64.bits = 64 := rfl
  rw [e, shr_U]
  congr 3
  by_cases hy : y.toNat ≤ 64
  · rw [Nat.min_eq_left hy]
  · rw [Nat.min_eq_right (by omega), BitVec.ushiftRight_eq_zero (by omega), BitVec.ushiftRight_eq_zero (by omega)]
theorem shl_any (yk : IntKind) (x : BitVec 64) (y : Int) (h : 0 ≤ y) : Op.shift .shl .u64 (U x) yk y = pure (.int .u64 (U (x <<< y.toNat))) := by
  rw [shift_shl_any _ _ _ _ h]
  have e : IntKind.u64.bits = 64 := rfl
  rw [e, shl_U]
  congr 3
  by_cases hy : y.toNat ≤ 64
  · rw [Nat.min_eq_left hy]
  · rw [Nat.min_eq_right (by omega), BitVec.shiftLeft_eq_zero (by omega), BitVec.shiftLeft_eq_zero (by omega)]
theorem shl_one (yk : IntKind) (x : BitVec 64) : Op.shift .shl .u64 (U x) yk 1 = pure (.int .u64 (U (x <<< 1))) := shl_any yk x 1 (by omega)
end Go.Proofs.YtnnchinpmnpfiaaDoor.Words
/- What a slice holds: a predicate on worlds, and how it is kept. No program in sight. -/
namespace Go.Proofs.YtnnchinpmnpfiaaDoor
open Go.RowKit

/-- The slice value '.slice A n c' holds the cells xs ('size' an element) and lies below block B. -/
structure Reads (w : World) (B size : Nat) (A : Option Addr) (n c : Nat) (xs : List Value) : Prop where
  len : xs.length = n * size
  le : n ≤ c
  cap : c ≤ maxLen
  none_ : A = none → c = 0
  at_ : 0 < n → ∃ b off, A = some ⟨b, off, none⟩ ∧ b < B ∧ ∀ j u, xs[j]? = some u → w.cell? ⟨b, off + j, none⟩ = some u

section
variable {w w' : World} {B B' size n c : Nat} {A : Option Addr} {xs : List Value}
theorem Reads.nil : Reads w B size none 0 0 [] := ⟨by simp, Nat.le_refl _, Nat.zero_le _, fun _ => rfl, fun h => absurd h (by omega)⟩
theorem Reads.keep (h : Reads w B size A n c xs) (hk : ∀ b o, b < B → w'.cell? ⟨b, o, none⟩ = w.cell? ⟨b, o, none⟩) : Reads w' B size A n c xs :=
  ⟨h.len, h.le, h.cap, h.none_, fun hn => by
    obtain ⟨b, off, e, hb, hc⟩ := h.at_ hn
    exact ⟨b, off, e, hb, fun j u hu => (hk _ _ hb).trans (hc j u hu)⟩⟩
theorem Reads.more (h : Reads w B size A n c xs) (hB : B ≤ B') : Reads w B' size A n c xs :=
  ⟨h.len, h.le, h.cap, h.none_, fun hn => by
    obtain ⟨b, off, e, hb, hc⟩ := h.at_ hn
    exact ⟨b, off, e, by omega, hc⟩⟩
theorem Reads.below (h : Reads w B size A n c xs) (hb : Below B w w') : Reads w' B size A n c xs := h.keep fun b o hp => hb.cell (p := ⟨b, o, none⟩) hp
theorem Reads.belowU (h : Reads w w.heap.size size A n c xs) (hb : Below w.heap.size w w') : Reads w' w'.heap.size size A n c xs := (h.below hb).more hb.size
theorem Reads.drew (h : Reads w B size A n c xs) : Reads w.drew B size A n c xs := h.keep fun _ _ _ => rfl
theorem Reads.drewN (h : Reads w B size A n c xs) (k : Nat) : Reads (w.drewN k) B size A n c xs := h.keep fun _ _ _ => rfl
theorem Reads.alloc (h : Reads w B size A n c xs) (hB : B ≤ w.heap.size) (o : Obj) : Reads (w.alloc o) B size A n c xs :=
  h.keep fun b _ hp => World.cell?_alloc_lt w o ⟨b, _, none⟩ (by show b < _; omega)
theorem Reads.setCell (h : Reads w B size A n c xs) {p : Addr} (hB : B ≤ p.block) (u : Value) : Reads (w.setCell p u) B size A n c xs :=
  h.keep fun b _ hq => World.cell?_setCell_other w p ⟨b, _, none⟩ u (fun e => by subst e; simp at hB; omega)
theorem Reads.grown (h : Reads w B size A n c xs) {row : Option Nat} (hg : w.grownBy w' row) (hB : B ≤ w.heap.size) (hr : ∀ g, row = some g → B ≤ g) : Reads w' B size A n c xs :=
  h.keep fun b _ hp => World.cell?_of_block (a := ⟨b, _, none⟩) (hg.block b (by omega) (fun e => by have := hr _ e.symm; omega))
end
theorem flat_len {α : Type} (f : α → List Value) (s : Nat) (hs : ∀ a, (f a).length = s) (l : List α) : (l.flatMap f).length = l.length * s := by
  induction l with
  | nil => simp
  | cons a l ih => rw [List.flatMap_cons, List.length_append, hs, ih, List.length_cons, Nat.succ_mul]; omega
theorem flat_at {α : Type} (f : α → List Value) (s : Nat) (hs : ∀ a, (f a).length = s) (l : List α) (k j : Nat) (hj : j < s) (a : α) (h : l[k]? = some a) :
    (l.flatMap f)[k * s + j]? = (f a)[j]? := by
  induction l generalizing k with
  | nil => simp at h
  | cons b l ih =>
    cases k with
    | zero =>
      simp at h; subst h
      rw [List.flatMap_cons, Nat.zero_mul, Nat.zero_add, List.getElem?_append_left (by rw [hs]; exact hj)]
    | succ k =>
      simp at h
      rw [List.flatMap_cons, List.getElem?_append_right (by rw [hs, Nat.succ_mul]; omega), hs, ← ih k h]
      congr 1
      rw [Nat.succ_mul]; omega
/-- element k of a slice whose elements are the values a of l, a's cells being 'f a' -/
theorem Reads.elem {α : Type} {w : World} {B s n c : Nat} {A : Option Addr} {f : α → List Value} {l : List α} (h : Reads w B s A n c (l.flatMap f)) (hs : ∀ a, (f a).length = s) (h0 : 0 < s) {k : Nat} (hk : k < n) :
    ∃ b off a, A = some ⟨b, off, none⟩ ∧ b < B ∧ l[k]? = some a ∧ ∀ j u, (f a)[j]? = some u → w.cell? ⟨b, off + k * s + j, none⟩ = some u := by
  obtain ⟨b, off, hA, hb, hc⟩ := h.at_ (by omega)
  have hl := h.len
  rw [flat_len f s hs] at hl
  have hl' : l.length = n := Nat.eq_of_mul_eq_mul_right h0 hl
  have hk' : k < l.length := by omega
  refine ⟨b, off, l[k], hA, hb, List.getElem?_eq_getElem hk', fun j u hu => ?_⟩
  have hj : j < s := by rw [← hs (l[k])]; exact (List.getElem?_eq_some_iff.1 hu).1
  rw [Nat.add_assoc]
  exact hc _ u (by rw [flat_at f s hs l k j hj _ (List.getElem?_eq_getElem hk')]; exact hu)
theorem Reads.length {α : Type} {w : World} {B s n c : Nat} {A : Option Addr} {f : α → List Value} {l : List α} (h : Reads w B s A n c (l.flatMap f)) (hs : ∀ a, (f a).length = s) (h0 : 0 < s) : l.length = n := by
  have hl := h.len
  rw [flat_len f s hs] at hl
  exact Nat.eq_of_mul_eq_mul_right h0 hl
theorem drop_at {α : Type} {l : List α} {k : Nat} {a : α} (h : l[k]? = some a) : l.drop k = a :: l.drop (k + 1) := by
  obtain ⟨hk, rfl⟩ := List.getElem?_eq_some_iff.1 h
  exact List.drop_eq_getElem_cons hk
theorem drop_end {α : Type} {l : List α} {k n : Nat} (hl : l.length = n) (h : ¬ k < n) : l.drop k = [] := List.drop_eq_nil_of_le (by omega)
/-- 't' is a slice type of elements 'e', each of 'size' cells and 'bytes' bytes -/
structure SlTy (P : Program) (t e : TypeId) (size bytes : Nat) : Prop where
  und : P.underlying t = some (.slice e)
  info : ∃ i z, P.info? e = some i ∧ i.zero = some z ∧ i.size = size ∧ i.bytes = bytes ∧ z.cells.size = size
  pos : 0 < size
theorem SlTy.mk' {P : Program} {t e : TypeId} {size bytes : Nat} {z : Value} (hu : P.underlying t = some (.slice e)) (hi : (P.info? e).map (fun i => (i.zero, i.size, i.bytes)) = some (some z, size, bytes)) (hz : z.cells.size = size) (h0 : 0 < size) : SlTy P t e size bytes := by
  obtain ⟨i, h1, h2, h3, h4⟩ := info_parts hi
  exact ⟨hu, ⟨i, z, h1, h2, h3, h4, hz⟩, h0⟩

section
variable {P : Program} {w : World} {t e : TypeId} {size bytes base n B m c : Nat} {v : Value} {xs news : List Value} {A : Option Addr}
theorem run_app (ty : TypeId) (hT : SlTy P t e size bytes) (hown : w.ownsRow base e size v n xs) (hr : Reads w B size A m c news) (h1 : ∀ u ∈ news, u.oneCell' = true)
    (h63 : n + m ≤ maxLen) (hby : (n + m) * bytes ≤ 140737488355328) (hbase : base ≤ w.heap.size) :
    ∃ v' w', (Builtin.append_ #[t, t] ty #[v, .slice A m c]).run P w = .ok v' w' ∧ w'.ownsRow base e size v' (n + m) (xs ++ news) ∧ w.grownBy w' v.ownBlock := by
  obtain ⟨hu, ⟨i, z, hi, hz, hs, hb, hzs⟩, h0⟩ := hT
  cases A with
  | none =>
    obtain rfl := hr.none_ rfl
    have hm : m = 0 := Nat.le_zero.1 hr.le
    subst hm
    have hn : news = [] := List.eq_nil_of_length_eq_zero (by simpa using hr.len)
    subst hn
    exact ⟨v, w, run_append_owned_none (P := P) (w := w) base t ty e i size hu hi v n xs hown, by simpa using hown, World.grownBy.refl w _⟩
  | some ad =>
    have hcells : ∀ j u, news[j]? = some u → w.cell? (ad.add j) = some u := by
      intro j u hj
      by_cases h : 0 < m
      · obtain ⟨b, off, he, _, hc⟩ := hr.at_ h
        injection he with he
        subst he
        have := hc j u hj
        unfold Addr.add
        split
        · rename_i h0; subst h0; simpa using this
        · exact this
      · have : news = [] := List.eq_nil_of_length_eq_zero (by rw [hr.len, show m = 0 by omega]; simp)
        subst this
        simp at hj
    obtain ⟨v', w', h2, h3, h4, _, _⟩ := run_append_own_at (P := P) w base t ty e i z size bytes hu hi hz hs hb hzs h0 v n xs hown ad m c news hr.len hcells h1 h63 hby hbase
    exact ⟨v', w', h2, h3, h4⟩

theorem wp_app {o : Oper} {a : Act} {K : Act → World → Prop} {Q : Exit → Act → World → Prop} (s x : Operand) (t : TypeId)
    (ho : o.op = .call { callee := .builtin .append, args := #[s, x], argTypes := #[t, t] }) (hT : SlTy P t e size bytes)
    (hs : a.eval s = v) (hown : w.ownsRow base e size v n xs) (hx : a.eval x = .slice A m c) (hr : Reads w B size A m c news) (h1 : ∀ u ∈ news, u.oneCell' = true)
    (h63 : n + m ≤ maxLen) (hby : (n + m) * bytes ≤ 140737488355328) (hbase : base ≤ w.heap.size)
    (h : ∀ v' w', w'.ownsRow base e size v' (n + m) (xs ++ news) → Below base w w' → K (a.put o.dst v') w') : o.wp P a w K Q := by
  obtain ⟨v', w', hrun, h2, h3⟩ := run_app (P := P) o.type hT hown hr h1 h63 hby hbase
  have hb : Below base w w' := (Below.refl base w).grown h3 hbase (fun k hk => (hown.lt k hk).1)
  unfold Oper.wp
  simp [execOp, ho, resolve, invoke, builtin, hs, hx, hrun, Result.andThen]
  exact h v' w' h2 hb

theorem wpList_app {ops : Array Oper} {rest : List Oper} {o : Oper} {a : Act} {Q : Exit → Act → World → Prop} (hgd : o.guard = none) (s x : Operand) (t : TypeId)
    (ho : o.op = .call { callee := .builtin .append, args := #[s, x], argTypes := #[t, t] }) (hT : SlTy P t e size bytes)
    (hs : a.eval s = v) (hown : w.ownsRow base e size v n xs) (hx : a.eval x = .slice A m c) (hr : Reads w B size A m c news) (h1 : ∀ u ∈ news, u.oneCell' = true)
    (h63 : n + m ≤ maxLen) (hby : (n + m) * bytes ≤ 140737488355328) (hbase : base ≤ w.heap.size)
    (h : ∀ v' w', w'.ownsRow base e size v' (n + m) (xs ++ news) → Below base w w' → wpList P ops Q rest (a.put o.dst v') w') : wpList P ops Q (o :: rest) a w :=
  wpList_plain hgd fun _ hK => wp_app s x t ho hT hs hown hx hr h1 h63 hby hbase fun v' w' h2 h3 => hK _ _ (h v' w' h2 h3)

theorem step_app {ops : Array Oper} {o : Oper} {a : Act} {K : Act → World → Prop} {Q : Exit → Act → World → Prop} {E : Prop} (hgd : o.guard = none) (s x : Operand) (t : TypeId)
    (ho : o.op = .call { callee := .builtin .append, args := #[s, x], argTypes := #[t, t] }) (hT : SlTy P t e size bytes)
    (hs : a.eval s = v) (hown : w.ownsRow base e size v n xs) (hx : a.eval x = .slice A m c) (hr : Reads w B size A m c news) (h1 : ∀ u ∈ news, u.oneCell' = true)
    (h63 : n + m ≤ maxLen) (hby : (n + m) * bytes ≤ 140737488355328) (hbase : base ≤ w.heap.size)
    (h : ∀ v' w', w'.ownsRow base e size v' (n + m) (xs ++ news) → Below base w w' → K (a.put o.dst v') w') :
    if Region.wanted o (yielded ops a.tmps) = true then Oper.wp P o a w K Q else E := by
  rw [if_pos (by simp [Region.wanted, hgd])]
  exact wp_app s x t ho hT hs hown hx hr h1 h63 hby hbase h
end

/-- a block that was just made, as a slice -/
theorem Reads.fresh (w : World) (cs : Array Value) (e : TypeId) (s m : Nat) (hl : cs.size = m * s) (hm : m ≤ maxLen) :
    Reads (w.alloc (.cells cs e)) (w.heap.size + 1) s (some ⟨w.heap.size, 0, none⟩) m m cs.toList :=
  ⟨by simpa using hl, Nat.le_refl _, hm, (fun h => by cases h), fun _ => ⟨_, _, rfl, Nat.lt_succ_self _, fun j u hu => by
    rw [Nat.zero_add, cell_of_row _ w.heap.size j cs e (0, 0) (heap_alloc_new w _)]
    simpa using hu⟩⟩
theorem Reads.freshAs (w : World) (cs : Array Value) (e : TypeId) (s m : Nat) (xs : List Value) (hx : cs.toList = xs) (hl : cs.size = m * s) (hm : m ≤ maxLen) :
    Reads (w.alloc (.cells cs e)) (w.alloc (.cells cs e)).heap.size s (some ⟨w.heap.size, 0, none⟩) m m xs := by
  subst hx
  exact (Reads.fresh w cs e s m hl hm).more (by simp)
theorem Reads.freshAt (w : World) (cs : Array Value) (e : TypeId) (s m : Nat) (xs : List Value) (g : Nat) (hg : w.heap.size = g) (hx : cs.toList = xs) (hl : cs.size = m * s) (hm : m ≤ maxLen) :
    Reads (w.alloc (.cells cs e)) (w.alloc (.cells cs e)).heap.size s (some ⟨g, 0, none⟩) m m xs := by
  subst hg
  exact Reads.freshAs w cs e s m xs hx hl hm
/-- what the call itself has built, as a slice that is read -/
theorem Reads.own {w : World} {base n s : Nat} {e : TypeId} {v : Value} {xs : List Value} (h : w.ownsRow base e s v n xs) : ∃ A c, v = .slice A n c ∧ Reads w w.heap.size s A n c xs := by
  rcases h.2 with ⟨rfl, rfl⟩ | ⟨g, cap, cur, rfl, hb, hg, hn, hm, hs, ht⟩
  · have hx : xs = [] := List.eq_nil_of_length_eq_zero (by simpa using h.1)
    subst hx
    exact ⟨none, 0, rfl, Reads.nil⟩
  · refine ⟨_, _, rfl, h.1, hn, hm, (fun h => by cases h), fun _ => ⟨g, 0, rfl, (Array.getElem?_eq_some_iff.1 hg).1, fun j u hu => ?_⟩⟩
    rw [Nat.zero_add, cell_of_row w g j cur e (0, 0) hg]
    rw [← ht] at hu
    rw [List.getElem?_take] at hu
    split at hu
    · simpa using hu
    · cases hu
theorem keep_cell {W w1 : World} (hb : Below W.heap.size W w1) {a : Addr} {v : Value} (h : W.cell? a = some v) : w1.cell? a = some v :=
  (hb.cell (World.block_lt_of_cell? W a h)).trans h
theorem keep_below {W W0 w1 : World} (hb : Below W.heap.size W w1) (h : Below W0.heap.size W0 W) : Below W0.heap.size W0 w1 := h.trans (hb.mono h.size)
theorem keep_alloc {W0 w : World} (h : Below W0.heap.size W0 w) (o : Obj) : Below W0.heap.size W0 (w.alloc o) := h.alloc h.size o
theorem keep_set {W0 w : World} (h : Below W0.heap.size W0 w) {p : Addr} (hp : W0.heap.size ≤ p.block) (u : Value) : Below W0.heap.size W0 (w.setCell p u) := h.setCell hp u
theorem own_keep {w w' : World} {base e size n : Nat} {v : Value} {xs : List Value} (h : w.ownsRow base e size v n xs) (hb : Below w.heap.size w w') : w'.ownsRow base e size v n xs :=
  h.kept (row := none) ⟨hb.os, hb.tape, hb.output, hb.size, fun i hi _ => hb.block i hi⟩ (by cases v.ownBlock <;> simp)
/-- block g is just the cells cs, none frozen -/
def Blk (w : World) (g : Nat) (t : TypeId) (cs : Array Value) : Prop := w.heap[g]? = some (.cells cs t (0, 0))
section
variable {w w1 : World} {g : Nat} {t : TypeId} {cs : Array Value}
theorem Blk.lt (h : Blk w g t cs) : g < w.heap.size := (Array.getElem?_eq_some_iff.1 h).1
theorem Blk.cell (h : Blk w g t cs) (i : Nat) (v : Value) (hv : cs[i]? = some v) : w.cell? ⟨g, i, none⟩ = some v := by
  rw [cell_of_row w g i cs t (0, 0) h]; exact hv
theorem Blk.free (h : Blk w g t cs) (i : Nat) : w.frozen? ⟨g, i, none⟩ = false := frozen_of_row w g i cs t h
theorem Blk.new (w : World) (cs : Array Value) (t : TypeId) : Blk (w.alloc (.cells cs t)) w.heap.size t cs := heap_alloc_new w _
theorem Blk.newAt (w : World) (cs : Array Value) (t : TypeId) (g : Nat) (hg : w.heap.size = g) : Blk (w.alloc (.cells cs t)) g t cs := by subst hg; exact Blk.new w cs t
theorem Blk.alloc (h : Blk w g t cs) (o : Obj) : Blk (w.alloc o) g t cs := (Below.heap_alloc w o g h.lt).trans h
theorem Blk.drew (h : Blk w g t cs) : Blk w.drew g t cs := h
theorem Blk.drewN (h : Blk w g t cs) (n : Nat) : Blk (w.drewN n) g t cs := h
theorem Blk.below (h : Blk w g t cs) (hb : Below w.heap.size w w1) : Blk w1 g t cs := (hb.block g h.lt).trans h
theorem Blk.belowB {B : Nat} (h : Blk w g t cs) (hb : Below B w w1) (hg : g < B) : Blk w1 g t cs := (hb.block g hg).trans h
theorem Blk.far (h : Blk w g t cs) {p : Addr} (hp : g ≠ p.block) (u : Value) : Blk (w.setCell p u) g t cs := (Below.heap_setCell w p u g hp).trans h
theorem Blk.set (h : Blk w g t cs) (i : Nat) (u : Value) : Blk (w.setCell ⟨g, i, none⟩ u) g t (cs.setIfInBounds i u) := by
  unfold Blk at h ⊢
  simp [World.setCell, Array.getElem?_modify, h]
end
/-- what an unknown later world still holds, as rules for the walk -/
theorem bcell {W w1 : World} (hb : Below W.heap.size W w1) : (∀ b o, b < W.heap.size → w1.cell? ⟨b, o, none⟩ = W.cell? ⟨b, o, none⟩) ∧ (∀ b o, b < W.heap.size → w1.frozen? ⟨b, o, none⟩ = W.frozen? ⟨b, o, none⟩) :=
  ⟨fun b o h => hb.cell (p := ⟨b, o, none⟩) h, fun b o h => hb.frozen (p := ⟨b, o, none⟩) h⟩
theorem below_drewN {B : Nat} {a w : World} (h : Below B a w) (n : Nat) : Below B a (w.drewN n) := ⟨h.os, h.tape, h.output, h.size, h.block⟩
end Go.Proofs.YtnnchinpmnpfiaaDoor
/- Arguments opened: what a datum that was read says of its value. -/
namespace Go.Proofs.YtnnchinpmnpfiaaDoor
open Go.ChangeShapes Go.WideShapes Go.RowKit Words

def wordCells (x : BitVec 64) : List Value := [.int .u64 (U x)]
def intCells (x : Int) : List Value := [.int .i64 x]

section
variable {H : Type} {enc : TypeId × Value → H} {P : Program} {w : World} {base b : Nat} {spare : Nat → Bool} {held : Bool} {r : Reach}
theorem open_word {t : TypeId} {v : Value} {d : DataW H} {ps : List MemPlace} (ht : P.underlying t = some (.int .u64)) (hv : Value.okWide P w r b t v) (h : DataW.Trod enc P w base spare held t v d ps) :
    ∃ x : BitVec 64, v = .int .u64 (U x) := by
  obtain ⟨a, rfl, _, _, hw⟩ := open_int ht hv h
  obtain ⟨x, rfl⟩ := U_of a hw
  exact ⟨x, rfl⟩
theorem i64_range {n : Int} (h : (Lit.int .i64 n).wf = true) : -9223372036854775808 ≤ n ∧ n ≤ 9223372036854775807 := by
  simp [Lit.wf, IntKind.min, IntKind.max, IntKind.signed, IntKind.bits] at h
  omega
theorem open_i64 {t : TypeId} {v : Value} {d : DataW H} {ps : List MemPlace} (ht : P.underlying t = some (.int .i64)) (hv : Value.okWide P w r b t v) (h : DataW.Trod enc P w base spare held t v d ps) :
    ∃ n : Int, v = .int .i64 n ∧ -9223372036854775808 ≤ n ∧ n ≤ 9223372036854775807 := by
  obtain ⟨a, rfl, _, _, hw⟩ := open_int ht hv h
  exact ⟨a, rfl, i64_range hw⟩

/-! the same of cells -/
theorem cells_word {t : TypeId} {n : Nat} {cs : List Value} {y : DataW H × List MemPlace} (ht : P.underlying t = some (.int .u64)) (h : DataW.trod enc P w base spare held n t cs = some y) :
    ∃ x : BitVec 64, cs = [.int .u64 (U x)] := by
  obtain ⟨a, rfl, _, hw⟩ := DataW.trod_int ht h
  obtain ⟨x, rfl⟩ := U_of a hw
  exact ⟨x, rfl⟩
theorem cells_i64 {t : TypeId} {n : Nat} {cs : List Value} {y : DataW H × List MemPlace} (ht : P.underlying t = some (.int .i64)) (h : DataW.trod enc P w base spare held n t cs = some y) :
    ∃ x : Int, cs = [.int .i64 x] ∧ -9223372036854775808 ≤ x ∧ x ≤ 9223372036854775807 := by
  obtain ⟨a, rfl, _, hw⟩ := DataW.trod_int ht h
  exact ⟨a, rfl, i64_range hw⟩

/-- a slice of whatever elements: if every reading of an element's cells has the form 'f a' with 'good a', the slice reads so -/
theorem cells_seq {α : Type} (f : α → List Value) (good : α → Prop) {t e : TypeId} {s fuel : Nat} {cs : List Value} {x : DataW H × List MemPlace} (ht : P.underlying t = some (.slice e)) (hs : P.cellsOf e = s) (h0 : 0 < s)
    (hel : ∀ n cs' y, DataW.trod enc P w base spare held n e cs' = some y → ∃ a, cs' = f a ∧ good a) (hf : ∀ a, (f a).length = s)
    (h : DataW.trod enc P w base spare held fuel t cs = some x) :
    ∃ A n c, ∃ l : List α, cs = [.slice A n c] ∧ Reads w w.heap.size s A n c (l.flatMap f) ∧ ∀ a ∈ l, good a := by
  rcases Go.Deep.open_slice ht h with ⟨rfl, _⟩ | ⟨a, len, cap, m, n, D, Pl, rfl, hb, hl, hm, hmm, hx, hi⟩
  · exact ⟨none, 0, 0, [], rfl, Reads.nil, fun a ha => absurd ha (by simp)⟩
  · have hlm : len ≤ m := by rw [hmm]; split <;> omega
    have he : ∀ i, i < len → ∃ z : α, good z ∧ ∀ j u, (f z)[j]? = some u → w.cell? (a.add (i * s + j)) = some u := by
      intro i hil
      obtain ⟨cs', hc, ht'⟩ := hi i (by omega)
      obtain ⟨z, rfl, hz⟩ := hel _ _ _ ht'
      obtain ⟨_, hcl, hat⟩ := World.cells?_some hc
      refine ⟨z, hz, fun j u hu => ?_⟩
      have hj : j < P.cellsOf e := by rw [hs, ← hf z]; exact (List.getElem?_eq_some_iff.1 hu).1
      have := hat j hj
      rw [Go.Deep.add_add, hs] at this
      rw [this, hu]
    have hch : ∀ k, k ≤ len → ∃ l : List α, l.length = k ∧ (∀ z ∈ l, good z) ∧ ∀ i z, l[i]? = some z → ∀ j u, (f z)[j]? = some u → w.cell? (a.add (i * s + j)) = some u := by
      intro k
      induction k with
      | zero => intro _; exact ⟨[], rfl, by simp, by simp⟩
      | succ k ih =>
        intro hk
        obtain ⟨l, h1, h2, h3⟩ := ih (by omega)
        obtain ⟨z, hz, hzc⟩ := he k (by omega)
        refine ⟨l ++ [z], by simp [h1], fun y hy => ?_, fun i y hy => ?_⟩
        · rcases List.mem_append.1 hy with hy | hy
          · exact h2 y hy
          · simp at hy; subst hy; exact hz
        · by_cases hil : i < l.length
          · rw [List.getElem?_append_left hil] at hy; exact h3 i y hy
          · rw [List.getElem?_append_right (by omega)] at hy
            have hi0 : i - l.length = 0 := by
              rcases Nat.eq_zero_or_pos (i - l.length) with h | h
              · exact h
              · rw [List.getElem?_eq_none (by simp; omega)] at hy; cases hy
            rw [hi0] at hy
            simp at hy
            subst hy
            have : i = k := by omega
            subst this
            exact hzc
    obtain ⟨l, h1, h2, h3⟩ := hch len (Nat.le_refl _)
    refine ⟨some a, len, cap, l, rfl, ⟨by rw [flat_len f s hf, h1], hl, hm, (fun h => by cases h), fun hn => ?_⟩, h2⟩
    have hfirst : ∃ z, l[0]? = some z := ⟨l[0]'(by omega), List.getElem?_eq_getElem (by omega)⟩
    obtain ⟨z, hz⟩ := hfirst
    have hzl : 0 < (f z).length := by rw [hf]; exact h0
    have hc0 := h3 0 z hz 0 _ (List.getElem?_eq_getElem hzl)
    have hadd : a.add (0 * s + 0) = a := by simp [Addr.add]
    rw [hadd] at hc0
    have hsp := World.cell?_spot hc0
    have hlt := World.block_lt_of_cell? w a hc0
    obtain ⟨ab, ao, asp⟩ := a
    simp at hsp
    subst hsp
    refine ⟨ab, ao, rfl, hlt, fun j u hu => ?_⟩
    have hj : j < (l.flatMap f).length := (List.getElem?_eq_some_iff.1 hu).1
    rw [flat_len f s hf, h1] at hj
    have hdiv : j / s < l.length := by rw [h1]; exact (Nat.div_lt_iff_lt_mul h0).2 hj
    have hjj : j / s * s + j % s = j := by rw [Nat.mul_comm]; exact Nat.div_add_mod j s
    have hel := h3 (j / s) l[j / s] (List.getElem?_eq_getElem hdiv) (j % s)
    have hfa := flat_at f s hf l (j / s) (j % s) (Nat.mod_lt _ h0) _ (List.getElem?_eq_getElem hdiv)
    rw [hjj, hu] at hfa
    have := hel u hfa.symm
    rw [hjj] at this
    have hadd2 : (⟨ab, ao, none⟩ : Addr).add j = ⟨ab, ao + j, none⟩ := by unfold Addr.add; split <;> simp_all
    rw [hadd2] at this
    exact this

theorem open_seq {α : Type} (f : α → List Value) (good : α → Prop) {t e : TypeId} {s : Nat} {v : Value} {d : DataW H} {ps : List MemPlace} (ht : P.underlying t = some (.slice e)) (hs : P.cellsOf e = s) (h0 : 0 < s)
    (hel : ∀ n cs' y, DataW.trod enc P w base spare held n e cs' = some y → ∃ a, cs' = f a ∧ good a) (hf : ∀ a, (f a).length = s)
    (hv : Value.okWide P w r b t v) (h : DataW.Trod enc P w base spare held t v d ps) :
    ∃ A n c, ∃ l : List α, v = .slice A n c ∧ Reads w w.heap.size s A n c (l.flatMap f) ∧ ∀ a ∈ l, good a := by
  obtain ⟨A, n, c, rfl⟩ := okWide_slice ht hv
  obtain ⟨fuel, hf'⟩ := h
  obtain ⟨A', n', c', l, he, hr, hg⟩ := cells_seq f good ht hs h0 hel hf hf'
  simp only [Value.cells, List.cons.injEq, Value.slice.injEq, and_true] at he
  obtain ⟨rfl, rfl, rfl⟩ := he
  exact ⟨_, _, _, l, rfl, hr, hg⟩

theorem open_words {t e : TypeId} {v : Value} {d : DataW H} {ps : List MemPlace} (ht : P.underlying t = some (.slice e)) (he : P.underlying e = some (.int .u64)) (hs : P.cellsOf e = 1)
    (hv : Value.okWide P w r b t v) (h : DataW.Trod enc P w base spare held t v d ps) : ∃ A n c, ∃ l : List (BitVec 64), v = .slice A n c ∧ Reads w w.heap.size 1 A n c (l.flatMap wordCells) := by
  obtain ⟨A, n, c, l, h1, h2, _⟩ := open_seq wordCells (fun _ => True) ht hs (by omega) (fun n cs' y hy => (cells_word he hy).imp fun x hx => ⟨hx, trivial⟩) (fun _ => rfl) hv h
  exact ⟨A, n, c, l, h1, h2⟩
theorem open_i64s {t e : TypeId} {v : Value} {d : DataW H} {ps : List MemPlace} (ht : P.underlying t = some (.slice e)) (he : P.underlying e = some (.int .i64)) (hs : P.cellsOf e = 1)
    (hv : Value.okWide P w r b t v) (h : DataW.Trod enc P w base spare held t v d ps) : ∃ A n c, ∃ l : List Int, v = .slice A n c ∧ Reads w w.heap.size 1 A n c (l.flatMap intCells) ∧ ∀ x ∈ l, -9223372036854775808 ≤ x ∧ x ≤ 9223372036854775807 :=
  open_seq intCells (fun x => -9223372036854775808 ≤ x ∧ x ≤ 9223372036854775807) ht hs (by omega) (fun _ _ _ hy => cells_i64 he hy) (fun _ => rfl) hv h

/-- a struct of one-cell fields: its cells, one by one -/
theorem cells_struct {t : TypeId} {fs : Array Field} {n : Nat} {cs : List Value} {y : DataW H × List MemPlace} (ht : P.underlying t = some (.struct fs)) (hone : Go.Deep.oneCellFields P fs = true) (hC : P.cellsOf t = fs.size)
    (h : DataW.trod enc P w base spare held n t cs = some y) :
    cs.length = fs.size ∧ ∀ (i : Nat) (f : Field), fs[i]? = some f → ∃ (v : Value) (m : Nat) (z : DataW H × List MemPlace), cs[i]? = some v ∧ DataW.trod enc P w base spare held m f.type [v] = some z := by
  obtain ⟨ys, n', hn', hy, hlen, hyl, hf⟩ := DataW.trod_struct ht h
  refine ⟨by rw [hlen, hC], fun j f hj => ?_⟩
  obtain ⟨ho, hk⟩ := Go.Deep.hone_of hone j f hj
  have hjl : j < fs.size := (Array.getElem?_eq_some_iff.1 hj).1
  have hv : cs[j]? = some (cs[j]'(by omega)) := List.getElem?_eq_getElem (by omega)
  have h1 := hf j f hj
  rw [ho, hk] at h1
  have hone' : (cs.drop j).take 1 = [cs[j]'(by omega)] := by
    rw [List.drop_eq_getElem_cons (by omega)]
    rfl
  rw [hone'] at h1
  have hys : ys[j]? = some (ys[j]'(by omega)) := List.getElem?_eq_getElem (by omega)
  exact ⟨_, n', _, hv, h1.trans hys⟩
end

theorem list2 {cs : List Value} {a b : Value} (hl : cs.length = 2) (h0 : cs[0]? = some a) (h1 : cs[1]? = some b) : cs = [a, b] := by
  match cs, hl with
  | [_, _], _ => simp_all
theorem list3 {cs : List Value} {a b c : Value} (hl : cs.length = 3) (h0 : cs[0]? = some a) (h1 : cs[1]? = some b) (h2 : cs[2]? = some c) : cs = [a, b, c] := by
  match cs, hl with
  | [_, _, _], _ => simp_all
theorem list4 {cs : List Value} {a b c d : Value} (hl : cs.length = 4) (h0 : cs[0]? = some a) (h1 : cs[1]? = some b) (h2 : cs[2]? = some c) (h3 : cs[3]? = some d) : cs = [a, b, c, d] := by
  match cs, hl with
  | [_, _, _, _], _ => simp_all
theorem list5 {cs : List Value} {a b c d e : Value} (hl : cs.length = 5) (h0 : cs[0]? = some a) (h1 : cs[1]? = some b) (h2 : cs[2]? = some c) (h3 : cs[3]? = some d) (h4 : cs[4]? = some e) : cs = [a, b, c, d, e] := by
  match cs, hl with
  | [_, _, _, _, _], _ => simp_all
end Go.Proofs.YtnnchinpmnpfiaaDoor
/- Plain laws: words as numbers. -/
namespace Go.Proofs.YtnnchinpmnpfiaaDoor.Words

theorem U_and_ones (x : BitVec 64) (n : Nat) (h : n ≤ 64) : U (x &&& ones n) = U x % 2 ^ n := by
  unfold U
  rw [BitVec.toNat_and, toNat_ones n h, Nat.and_two_pow_sub_one_eq_mod]
  simp
theorem U_ones (n : Nat) (h : n ≤ 64) : U (ones n) = 2 ^ n - 1 := by
  unfold U
  rw [toNat_ones n h, Int.natCast_sub (Nat.two_pow_pos n)]
  simp
theorem U_shr (x : BitVec 64) (n : Nat) : U (x >>> n) = U x / 2 ^ n := (shr_U x n).symm
theorem fits_lt (v : BitVec 64) (n : Nat) (h : n ≤ 64) : (v &&& ~~~ones n == 0#64) = decide (U v < 2 ^ n) := by
  rw [Bool.eq_iff_iff, beq_iff_eq, decide_eq_true_eq, fits_iff]
  have hp : (0 : Int) < 2 ^ n := Int.pow_pos (by decide)
  constructor
  · intro e
    have := U_and_ones v n h
    rw [e] at this
    rw [this]
    exact Int.emod_lt_of_pos _ hp
  · intro e
    apply U_inj
    rw [U_and_ones v n h]
    exact Int.emod_eq_of_lt (U_nonneg v) e
theorem U_or_shl (a b : BitVec 64) (i : Nat) (ha : U a < 2 ^ i) (hb : U b * 2 ^ i < 18446744073709551616) : U (a ||| b <<< i) = U a + U b * 2 ^ i := by
  unfold U at *
  have ha' : a.toNat < 2 ^ i := by exact_mod_cast ha
  have hb' : b.toNat * 2 ^ i < 2 ^ 64 := by
    have : ((b.toNat * 2 ^ i : Nat) : Int) < 18446744073709551616 := by simpa using hb
    omega
  rw [BitVec.toNat_or, BitVec.toNat_shiftLeft, Nat.shiftLeft_eq, Nat.mod_eq_of_lt hb', Nat.or_comm, Nat.mul_comm, ← Nat.two_pow_add_eq_or_of_lt ha']
  simp
  rw [Int.add_comm, Int.mul_comm]
theorem U_ofInt (n : Int) (h0 : 0 ≤ n) (h1 : n < 18446744073709551616) : U (BitVec.ofInt 64 n) = n := by
  have := wrap_ofInt n
  rw [← this]
  exact IntWalk.u64_in n ⟨h0, by omega⟩
theorem bits_and_3 (x : BitVec 64) : bits .and .u64 (U x) 3 = U x % 4 := by
  rw [show (3 : Int) = U (ones 2) from rfl, bits_and, U_and_ones x 2 (by omega)]; rfl
theorem bits_and_15 (x : BitVec 64) : bits .and .u64 (U x) 15 = U x % 16 := by
  rw [show (15 : Int) = U (ones 4) from rfl, bits_and, U_and_ones x 4 (by omega)]; rfl
theorem bits_and_255 (x : BitVec 64) : bits .and .u64 (U x) 255 = U x % 256 := by
  rw [show (255 : Int) = U (ones 8) from rfl, bits_and, U_and_ones x 8 (by omega)]; rfl
theorem bits_and_4095 (x : BitVec 64) : bits .and .u64 (U x) 4095 = U x % 4096 := by
  rw [show (4095 : Int) = U (ones 12) from rfl, bits_and, U_and_ones x 12 (by omega)]; rfl
theorem bits_and_65535 (x : BitVec 64) : bits .and .u64 (U x) 65535 = U x % 65536 := by
  rw [show (65535 : Int) = U (ones 16) from rfl, bits_and, U_and_ones x 16 (by omega)]; rfl
end Go.Proofs.YtnnchinpmnpfiaaDoor.Words
/- A region that draws its order and holds calls that make memory, whose results are known: one walk of the text's order serves every order. The class of worlds: those that have kept all blocks of a world. -/
namespace Go.Proofs.YtnnchinpmnpfiaaDoor
open Go.RowKit

/-- a world that has kept every block of w0 -/
structure Lag (w0 : World) where
  w : World
  h : Below w0.heap.size w0 w
instance (w0 : World) : Nonempty (Lag w0) := ⟨⟨w0, Below.refl _ _⟩⟩
section
variable {P : Program} {w0 : World}
theorem Lag.cell {a : Addr} {v : Value} (h : w0.cell? a = some v) : ∀ u : Lag w0, u.w.cell? a = some v := fun u => keep_cell u.h h
theorem wp_region_lag {id : Nat} {Q : Exit → Act → World → Prop} {a : Act} {l : List Oper} (hm : P.follows .mixedOrders = true) (hB : Region.lexB .any l.toArray = true)
    (h : wpQuiet P l.toArray (fun w' => ∃ u : Lag w0, w' = u.w) (fun a' => ∀ w', (∃ u : Lag w0, w' = u.w) → Q .normal a' w') l a) : (Code.region id l.toArray true).wp P Q a w0 :=
  wp_region_quiet (C := fun w' => ∃ u : Lag w0, w' = u.w) hm hB ⟨⟨w0.drew, (Below.refl _ _).drew⟩, rfl⟩ (by simpa using h)
theorem Calls.lag {f : FuncId} {args : Array Value} {u : Lag w0} {v : Value} (h : Calls P f args u.w fun e w'' => e = .returned v ∧ Below u.w.heap.size u.w w'') :
    Calls P f args u.w fun e w'' => e = .returned v ∧ ∃ u' : Lag w0, w'' = u'.w :=
  h.mono fun _ w'' ⟨he, hb⟩ => ⟨he, ⟨w'', keep_below hb u.h⟩, rfl⟩
theorem Calls.lag_same {f : FuncId} {args : Array Value} {u : Lag w0} {v : Value} (h : Calls P f args u.w fun e w'' => e = .returned v ∧ u.w = w'') :
    Calls P f args u.w fun e w'' => e = .returned v ∧ ∃ u' : Lag w0, w'' = u'.w :=
  h.mono fun _ _ ⟨he, hb⟩ => ⟨he, u, hb.symm⟩
end
end Go.Proofs.YtnnchinpmnpfiaaDoor
/- Append to a row of the call's own: the law that says which block may have been written. No program in sight. -/
namespace Go.Proofs.YtnnchinpmnpfiaaDoor
open Go.RowKit

theorem own_ne {w : World} {base n s : Nat} {e : TypeId} {v : Value} {xs : List Value} (h : w.ownsRow base e s v n xs) {b : Nat} (hb : b < base ∨ w.heap.size ≤ b) : some b ≠ v.ownBlock := by
  intro he
  have := h.lt b he.symm
  omega
theorem cell_far {w : World} {p : Addr} {b o : Nat} {u v : Value} (hne : p.block ≠ b) (h : w.cell? ⟨b, o, none⟩ = some v) : (w.setCell p u).cell? ⟨b, o, none⟩ = some v :=
  (World.cell?_setCell_other w p ⟨b, o, none⟩ u (fun e => hne (by rw [e]))).trans h
section
variable {P : Program} {w : World} {t e : TypeId} {size bytes base n B m c : Nat} {v : Value} {xs news : List Value} {A : Option Addr}
theorem wp_appG {o : Oper} {a : Act} {K : Act → World → Prop} {Q : Exit → Act → World → Prop} (s x : Operand) (t : TypeId)
    (ho : o.op = .call { callee := .builtin .append, args := #[s, x], argTypes := #[t, t] }) (hT : SlTy P t e size bytes)
    (hs : a.eval s = v) (hown : w.ownsRow base e size v n xs) (hx : a.eval x = .slice A m c) (hr : Reads w B size A m c news) (h1 : ∀ u ∈ news, u.oneCell' = true)
    (h63 : n + m ≤ maxLen) (hby : (n + m) * bytes ≤ 140737488355328) (hbase : base ≤ w.heap.size)
    (h : ∀ v' w', w'.ownsRow base e size v' (n + m) (xs ++ news) → w.grownBy w' v.ownBlock → K (a.put o.dst v') w') : o.wp P a w K Q := by
  obtain ⟨v', w', hrun, h2, h3⟩ := run_app (P := P) o.type hT hown hr h1 h63 hby hbase
  unfold Oper.wp
  simp [execOp, ho, resolve, invoke, builtin, hs, hx, hrun, Result.andThen]
  exact h v' w' h2 h3
theorem wpList_appG {ops : Array Oper} {rest : List Oper} {o : Oper} {a : Act} {Q : Exit → Act → World → Prop} (hgd : o.guard = none) (s x : Operand) (t : TypeId)
    (ho : o.op = .call { callee := .builtin .append, args := #[s, x], argTypes := #[t, t] }) (hT : SlTy P t e size bytes)
    (hs : a.eval s = v) (hown : w.ownsRow base e size v n xs) (hx : a.eval x = .slice A m c) (hr : Reads w B size A m c news) (h1 : ∀ u ∈ news, u.oneCell' = true)
    (h63 : n + m ≤ maxLen) (hby : (n + m) * bytes ≤ 140737488355328) (hbase : base ≤ w.heap.size)
    (h : ∀ v' w', w'.ownsRow base e size v' (n + m) (xs ++ news) → w.grownBy w' v.ownBlock → wpList P ops Q rest (a.put o.dst v') w') : wpList P ops Q (o :: rest) a w :=
  wpList_plain hgd fun _ hK => wp_appG s x t ho hT hs hown hx hr h1 h63 hby hbase fun v' w' h2 h3 => hK _ _ (h v' w' h2 h3)
theorem step_appG {ops : Array Oper} {o : Oper} {a : Act} {K : Act → World → Prop} {Q : Exit → Act → World → Prop} {E : Prop} (hgd : o.guard = none) (s x : Operand) (t : TypeId)
    (ho : o.op = .call { callee := .builtin .append, args := #[s, x], argTypes := #[t, t] }) (hT : SlTy P t e size bytes)
    (hs : a.eval s = v) (hown : w.ownsRow base e size v n xs) (hx : a.eval x = .slice A m c) (hr : Reads w B size A m c news) (h1 : ∀ u ∈ news, u.oneCell' = true)
    (h63 : n + m ≤ maxLen) (hby : (n + m) * bytes ≤ 140737488355328) (hbase : base ≤ w.heap.size)
    (h : ∀ v' w', w'.ownsRow base e size v' (n + m) (xs ++ news) → w.grownBy w' v.ownBlock → K (a.put o.dst v') w') :
    if Region.wanted o (yielded ops a.tmps) = true then Oper.wp P o a w K Q else E := by
  rw [if_pos (by simp [Region.wanted, hgd])]
  exact wp_appG s x t ho hT hs hown hx hr h1 h63 hby hbase h
end
end Go.Proofs.YtnnchinpmnpfiaaDoor
/- Two rows of the call's own, of one element type, in blocks of their own. No program in sight. -/
namespace Go.Proofs.YtnnchinpmnpfiaaDoor
open Go.RowKit

/-- two values do not share a block -/
def ApartV (v1 v2 : Value) : Prop := v1.ownBlock = none ∨ v1.ownBlock ≠ v2.ownBlock
theorem ApartV.symm {v1 v2 : Value} (h : ApartV v1 v2) : ApartV v2 v1 := by
  unfold ApartV at *
  rcases h with h | h
  · cases h2 : v2.ownBlock with
    | none => exact Or.inl rfl
    | some g => right; rw [h]; simp
  · exact Or.inr fun e => h e.symm
section
variable {P : Program} {w w' : World} {t e : TypeId} {size bytes base n B m c : Nat} {v : Value} {xs news : List Value} {A : Option Addr}
theorem run_appB (ty : TypeId) (hT : SlTy P t e size bytes) (hown : w.ownsRow base e size v n xs) (hr : Reads w B size A m c news) (h1 : ∀ u ∈ news, u.oneCell' = true)
    (h63 : n + m ≤ maxLen) (hby : (n + m) * bytes ≤ 140737488355328) (hbase : base ≤ w.heap.size) :
    ∃ v' w', (Builtin.append_ #[t, t] ty #[v, .slice A m c]).run P w = .ok v' w' ∧ w'.ownsRow base e size v' (n + m) (xs ++ news) ∧ w.grownBy w' v.ownBlock ∧ (v'.ownBlock = v.ownBlock ∨ v'.ownBlock = some w.heap.size) := by
  obtain ⟨hu, ⟨i, z, hi, hz, hs, hb, hzs⟩, h0⟩ := hT
  cases A with
  | none =>
    obtain rfl := hr.none_ rfl
    have hm : m = 0 := Nat.le_zero.1 hr.le
    subst hm
    have hn : news = [] := List.eq_nil_of_length_eq_zero (by simpa using hr.len)
    subst hn
    exact ⟨v, w, run_append_owned_none (P := P) (w := w) base t ty e i size hu hi v n xs hown, by simpa using hown, World.grownBy.refl w _, Or.inl rfl⟩
  | some ad =>
    have hcells : ∀ j u, news[j]? = some u → w.cell? (ad.add j) = some u := by
      intro j u hj
      by_cases h : 0 < m
      · obtain ⟨b, off, he, _, hc⟩ := hr.at_ h
        injection he with he
        subst he
        have := hc j u hj
        unfold Addr.add
        split
        · rename_i h0; subst h0; simpa using this
        · exact this
      · have : news = [] := List.eq_nil_of_length_eq_zero (by rw [hr.len, show m = 0 by omega]; simp)
        subst this
        simp at hj
    obtain ⟨v', w', h2, h3, h4, _, h5⟩ := run_append_own_at (P := P) w base t ty e i z size bytes hu hi hz hs hb hzs h0 v n xs hown ad m c news hr.len hcells h1 h63 hby hbase
    exact ⟨v', w', h2, h3, h4, h5⟩
theorem wp_appB {o : Oper} {a : Act} {K : Act → World → Prop} {Q : Exit → Act → World → Prop} (s x : Operand) (t : TypeId)
    (ho : o.op = .call { callee := .builtin .append, args := #[s, x], argTypes := #[t, t] }) (hT : SlTy P t e size bytes)
    (hs : a.eval s = v) (hown : w.ownsRow base e size v n xs) (hx : a.eval x = .slice A m c) (hr : Reads w B size A m c news) (h1 : ∀ u ∈ news, u.oneCell' = true)
    (h63 : n + m ≤ maxLen) (hby : (n + m) * bytes ≤ 140737488355328) (hbase : base ≤ w.heap.size)
    (h : ∀ v' w', w'.ownsRow base e size v' (n + m) (xs ++ news) → w.grownBy w' v.ownBlock → (v'.ownBlock = v.ownBlock ∨ v'.ownBlock = some w.heap.size) → K (a.put o.dst v') w') : o.wp P a w K Q := by
  obtain ⟨v', w', hrun, h2, h3, h4⟩ := run_appB (P := P) o.type hT hown hr h1 h63 hby hbase
  unfold Oper.wp
  simp [execOp, ho, resolve, invoke, builtin, hs, hx, hrun, Result.andThen]
  exact h v' w' h2 h3 h4
theorem wpList_appB {ops : Array Oper} {rest : List Oper} {o : Oper} {a : Act} {Q : Exit → Act → World → Prop} (hgd : o.guard = none) (s x : Operand) (t : TypeId)
    (ho : o.op = .call { callee := .builtin .append, args := #[s, x], argTypes := #[t, t] }) (hT : SlTy P t e size bytes)
    (hs : a.eval s = v) (hown : w.ownsRow base e size v n xs) (hx : a.eval x = .slice A m c) (hr : Reads w B size A m c news) (h1 : ∀ u ∈ news, u.oneCell' = true)
    (h63 : n + m ≤ maxLen) (hby : (n + m) * bytes ≤ 140737488355328) (hbase : base ≤ w.heap.size)
    (h : ∀ v' w', w'.ownsRow base e size v' (n + m) (xs ++ news) → w.grownBy w' v.ownBlock → (v'.ownBlock = v.ownBlock ∨ v'.ownBlock = some w.heap.size) → wpList P ops Q rest (a.put o.dst v') w') : wpList P ops Q (o :: rest) a w :=
  wpList_plain hgd fun _ hK => wp_appB s x t ho hT hs hown hx hr h1 h63 hby hbase fun v' w' h2 h3 h4 => hK _ _ (h v' w' h2 h3 h4)
theorem step_appB {ops : Array Oper} {o : Oper} {a : Act} {K : Act → World → Prop} {Q : Exit → Act → World → Prop} {E : Prop} (hgd : o.guard = none) (s x : Operand) (t : TypeId)
    (ho : o.op = .call { callee := .builtin .append, args := #[s, x], argTypes := #[t, t] }) (hT : SlTy P t e size bytes)
    (hs : a.eval s = v) (hown : w.ownsRow base e size v n xs) (hx : a.eval x = .slice A m c) (hr : Reads w B size A m c news) (h1 : ∀ u ∈ news, u.oneCell' = true)
    (h63 : n + m ≤ maxLen) (hby : (n + m) * bytes ≤ 140737488355328) (hbase : base ≤ w.heap.size)
    (h : ∀ v' w', w'.ownsRow base e size v' (n + m) (xs ++ news) → w.grownBy w' v.ownBlock → (v'.ownBlock = v.ownBlock ∨ v'.ownBlock = some w.heap.size) → K (a.put o.dst v') w') :
    if Region.wanted o (yielded ops a.tmps) = true then Oper.wp P o a w K Q else E := by
  rw [if_pos (by simp [Region.wanted, hgd])]
  exact wp_appB s x t ho hT hs hown hx hr h1 h63 hby hbase h
/-- the other row, where one row was appended to -/
theorem ApartV.app {b2 n2 s2 : Nat} {e2 : TypeId} {v1 v1' v2 : Value} {xs2 : List Value} (h : ApartV v1 v2) (h2 : w.ownsRow b2 e2 s2 v2 n2 xs2) (hg : w.grownBy w' v1.ownBlock) (hb : v1'.ownBlock = v1.ownBlock ∨ v1'.ownBlock = some w.heap.size) :
    w'.ownsRow b2 e2 s2 v2 n2 xs2 ∧ ApartV v1' v2 := by
  refine ⟨h2.kept hg h.symm, ?_⟩
  rcases hb with hb | hb
  · unfold ApartV; rw [hb]; exact h
  · right
    rw [hb]
    intro e
    exact absurd (h2.lt _ e.symm).2 (Nat.lt_irrefl _)
/-- a block that is just these cells, as a row of the call's own -/
theorem own_of_blk {g : Nat} {cs : Array Value} (h : Blk w g e cs) (hb : base ≤ g) (hm : n ≤ maxLen) (hs : cs.size = n * size) : w.ownsRow base e size (.slice (some ⟨g, 0, none⟩) n n) n cs.toList :=
  ⟨by simpa using hs, .inr ⟨g, n, cs, rfl, hb, h, Nat.le_refl _, hm, hs, List.take_of_length_le (by rw [Array.length_toList, hs]; exact Nat.le_refl _)⟩⟩
end
end Go.Proofs.YtnnchinpmnpfiaaDoor
/- The contract of Ones: the word of n bits 1. -/
namespace Go.Proofs.YtnnchinpmnpfiaaDoor
open Go.RowKit Words

attribute [local go_sem ↓] Words.bits_or_one Words.shl_one Words.dbl_one

theorem ret_u {x y : BitVec 64} (h : x = y) : Ending.returned (.int .u64 (U x)) = .returned (.int .u64 (U y)) := by rw [h]

theorem ones_any (n : Int) (w : World) :
    Calls Tryd.prog 43 #[.int .i64 n] w fun e w' => e = .returned (.int .u64 (U (ones n.toNat))) ∧ w = w' := by
  go_enter Tryd.func43, Tryd.ntmps43
  go_wp2_with fail
  all_goals
    go_loop [3, 7] (fun x i => ∃ k : Nat, k ≤ min n.toNat 64 ∧ i = .int .i64 k ∧ x = .int .u64 (U (ones k))) (fun _ i => 64 - (intOf i).toNat)
    case atStart => exact ⟨0, Nat.zero_le _, rfl, rfl⟩
    case round =>
      obtain ⟨k, hk, rfl, rfl⟩ := hrel
      by_cases hlt : k < min n.toNat 64
      · go_wp2
        all_goals
          go_round
          case rel => exact ⟨k + 1, by omega, by go_num, by rw [ones_shl]; omega⟩
          case measure => simp [intOf]; omega
      · have h : ones k = ones n.toNat := by
          by_cases h64 : n.toNat ≤ 64
          · rw [show k = n.toNat by omega]
          · rw [ones_big n.toNat (by omega), show k = 64 by omega]
        have H := Lib.hid h
        clear h
        go_wp2
        go_ret
        exact ⟨ret_u H.out, rfl⟩

end Go.Proofs.YtnnchinpmnpfiaaDoor
/- The tape of choices: what Next returns, and what it leaves. -/
namespace Go.Proofs.YtnnchinpmnpfiaaDoor
open Go.RowKit Words

/-- block g is a tape of which a numbers have been used -/
def TapeAt (w : World) (g a : Nat) : Prop := ∃ A n c, ∃ l : List Int, Blk w g 64 #[.slice A n c, .int .i64 a] ∧ Reads w g 1 A n c (l.flatMap intCells)
theorem TapeAt.only {w w' : World} {g a g' : Nat} (h : TapeAt w g a) (ho : w.grownBy w' (some g')) (hne : g < g') : TapeAt w' g a := by
  obtain ⟨A, n, c, l, hb, hr⟩ := h
  have hlt := hb.lt
  refine ⟨A, n, c, l, (ho.block g hlt (by simp; omega)).trans hb, hr.keep fun b o hbg => World.cell?_of_block (a := ⟨b, o, none⟩) (ho.block b (by omega) (by simp; omega))⟩
theorem TapeAt.below {w w' : World} {g a : Nat} (h : TapeAt w g a) (hb : Below w.heap.size w w') : TapeAt w' g a := by
  obtain ⟨A, n, c, l, hB, hr⟩ := h
  exact ⟨A, n, c, l, hB.below hb, hr.below (hb.mono (by have := hB.lt; omega))⟩
theorem TapeAt.lt {w : World} {g a : Nat} (h : TapeAt w g a) : g < w.heap.size := by
  obtain ⟨A, n, c, l, hB, hr⟩ := h
  exact hB.lt
theorem tape_tmod (a b : Int) (hb : 0 < b) : -b < a.tmod b ∧ a.tmod b < b := ⟨Int.lt_tmod_of_pos a hb, Int.tmod_lt_of_pos a hb⟩
/-- what is left behind Next: only the tape's block has turned -/
def NextW (w : World) (g a : Nat) (w' : World) : Prop := ∃ a', a' ≤ a + 1 ∧ TapeAt w' g a' ∧ w.grownBy w' (some g)
def RetNext (w : World) (g a : Nat) (n : Int) (e : Ending) (w' : World) : Prop := ∃ r : Int, e = .returned (.int .i64 r) ∧ 0 ≤ r ∧ (r < n ∨ r = 0) ∧ NextW w g a w'

theorem next_any (g a : Nat) (n : Int) (w : World) (h : TapeAt w g a) (ha : a ≤ 1000000) (hn : n ≤ 1000000) :
    Calls Tryd.prog 39 #[.pointer (some ⟨g, 0, none⟩), .int .i64 n] w (RetNext w g a n) := by
  obtain ⟨A, m, c, l, hb, hr⟩ := h
  have hlen := hr.length (fun _ => rfl) (by omega)
  have hcap := hr.cap
  have hle := hr.le
  unfold maxLen at hcap
  have c0 : w.cell? ⟨g, 0, none⟩ = some (.slice A m c) := hb.cell 0 _ rfl
  have c1 : w.cell? ⟨g, 1, none⟩ = some (.int .i64 a) := hb.cell 1 _ rfl
  have hf := hb.free
  have hT : ∀ k, TapeAt ((w.drewN k).setCell ⟨g, 1, none⟩ (.int .i64 ((a : Int) + 1))) g (a + 1) := fun k =>
    ⟨A, m, c, l, by have := (hb.drewN k).set 1 (.int .i64 ((a : Int) + 1)); exact this, (hr.drewN k).setCell (by show g ≤ g; omega) _⟩
  have hG : ∀ k, w.grownBy ((w.drewN k).setCell ⟨g, 1, none⟩ (.int .i64 ((a : Int) + 1))) (some g) := fun k =>
    ⟨rfl, rfl, rfl, by simp [World.setCell], fun i hi hne => (Below.heap_setCell (w.drewN k) ⟨g, 1, none⟩ _ i (fun e => hne (by rw [e])))⟩
  have HT := Lib.hid hT
  have HG := Lib.hid hG
  have HL := Lib.hid hlen
  clear hT hG hlen
  by_cases hn1 : n < 1
  · go_enter Tryd.func39, Tryd.ntmps39
    go_wp2_with fail
    go_ret
    exact ⟨0, rfl, Int.le_refl _, Or.inr rfl, a, by omega, ⟨A, m, c, l, hb, hr⟩, World.grownBy.refl _ _⟩
  have hn0 : 0 < n := by omega
  have key : ∀ v : Int, 0 ≤ (v.tmod n + n).tmod n ∧ (v.tmod n + n).tmod n < n := fun v => by
    obtain ⟨h1, h2⟩ := tape_tmod v n hn0
    have h3 : (v.tmod n + n).tmod n = (v.tmod n + n) % n := Int.tmod_eq_emod_of_nonneg (by omega)
    rw [h3]
    exact ⟨Int.emod_nonneg _ (by omega), Int.emod_lt_of_pos _ hn0⟩
  have KEY := Lib.hid key
  have ht2 : ∀ v : Int, -n < v.tmod n ∧ v.tmod n < n := fun v => tape_tmod v n hn0
  have HT2 := Lib.hid ht2
  clear key ht2
  have hb0 : Blk w g 64 #[.slice A m c, .int .i64 a] := hb
  have HB := Lib.hid hb0
  clear hb0 hb
  by_cases hlt : a < m
  · obtain ⟨b, off, v, rfl, hbb, hv, hc⟩ := hr.elem (fun _ => rfl) (by omega) hlt
    have d0 := hc 0 _ rfl
    rw [Nat.mul_one, Nat.add_zero] at d0
    have k0 : (0 : Int) ≤ (a : Int) := by omega
    have k1 : (a : Int) < (m : Int) := by omega
    have hd : decide ((a : Int) < (m : Int)) = true := decide_eq_true k1
    obtain ⟨q, hq⟩ : ∃ q, v.tmod n = q := ⟨_, rfl⟩
    have hq1 := HT2.out v
    have hk := KEY.out v
    rw [hq] at hq1 hk
    obtain ⟨hq0, hq1⟩ := hq1
    have wq : IntKind.i64.wrap (q + n) = q + n := IntWalk.i64_in _ (by omega)
    clear hc hv
    go_enter Tryd.func39, Tryd.ntmps39
    go_wp2_with fail
    go_quiet (fail)
    go_wp2_with fail
    go_quiet (fail)
    go_wp2_with fail
    go_ret
    exact ⟨(q + n) % n, rfl, Int.emod_nonneg _ (by omega), Or.inl (Int.emod_lt_of_pos _ hn0), a + 1, Nat.le_refl _, HT.out _, HG.out _⟩
  · have hd : decide ((a : Int) < (m : Int)) = false := decide_eq_false (by omega)
    have k0 : (0 : Int) ≤ (a : Int) := by omega
    have hq0 := Int.emod_nonneg ((a : Int) * 7 + 3) (show n ≠ 0 by omega)
    have hq1 := Int.emod_lt_of_pos ((a : Int) * 7 + 3) hn0
    obtain ⟨q, hq⟩ : ∃ q, ((a : Int) * 7 + 3) % n = q := ⟨_, rfl⟩
    rw [hq] at hq0 hq1
    have wq : IntKind.i64.wrap (q + n) = q + n := IntWalk.i64_in _ (by omega)
    go_enter Tryd.func39, Tryd.ntmps39
    go_wp2_with fail
    go_quiet (fail)
    go_wp2_with fail
    go_ret
    exact ⟨(q + n) % n, rfl, Int.emod_nonneg _ (by omega), Or.inl (Int.emod_lt_of_pos _ hn0), a + 1, Nat.le_refl _, HT.out _, HG.out _⟩
end Go.Proofs.YtnnchinpmnpfiaaDoor
/- Worlds of which only some blocks have turned. No program in sight. -/
namespace Go.Proofs.YtnnchinpmnpfiaaDoor
open Go.RowKit

/-- of w's blocks only those of X have turned -/
structure OnlyX (X : Nat → Prop) (w w' : World) : Prop where
  os : w'.os = w.os
  tape : w'.tape = w.tape
  output : w'.output = w.output
  size : w.heap.size ≤ w'.heap.size
  block : ∀ i, i < w.heap.size → ¬ X i → w'.heap[i]? = w.heap[i]?
/-- a slice whose block is not in X -/
def FarX (X : Nat → Prop) (n : Nat) (A : Option Addr) : Prop := ∀ b off, 0 < n → A = some ⟨b, off, none⟩ → ¬ X b
section
variable {X Y : Nat → Prop} {w w' w2 : World} {s n c g : Nat} {t : TypeId} {A : Option Addr} {xs : List Value} {cs : Array Value}
theorem OnlyX.refl : OnlyX X w w := ⟨rfl, rfl, rfl, Nat.le_refl _, fun _ _ _ => rfl⟩
theorem OnlyX.trans (h : OnlyX X w w') (k : OnlyX X w' w2) : OnlyX X w w2 :=
  ⟨k.os.trans h.os, k.tape.trans h.tape, k.output.trans h.output, Nat.le_trans h.size k.size, fun i hi hx => (k.block i (Nat.lt_of_lt_of_le hi h.size) hx).trans (h.block i hi hx)⟩
theorem OnlyX.mono (h : OnlyX X w w') (hxy : ∀ i, i < w.heap.size → X i → Y i) : OnlyX Y w w' := ⟨h.os, h.tape, h.output, h.size, fun i hi hy => h.block i hi fun hx => hy (hxy i hi hx)⟩
/-- what was written last may lie in new blocks, too -/
theorem OnlyX.more (h : OnlyX X w w') (k : OnlyX Y w' w2) (hy : ∀ i, i < w.heap.size → Y i → X i) : OnlyX X w w2 :=
  ⟨k.os.trans h.os, k.tape.trans h.tape, k.output.trans h.output, Nat.le_trans h.size k.size, fun i hi hx => (k.block i (Nat.lt_of_lt_of_le hi h.size) fun e => hx (hy i hi e)).trans (h.block i hi hx)⟩
theorem OnlyX.grown {row : Option Nat} (h : w.grownBy w' row) : OnlyX (fun i => row = some i) w w' := ⟨h.os, h.tape, h.output, h.size, fun i hi hx => h.block i hi fun e => hx e.symm⟩
theorem OnlyX.below {B : Nat} (h : Below B w w') : OnlyX (fun i => B ≤ i) w w' := ⟨h.os, h.tape, h.output, h.size, fun i _ hx => h.block i (Nat.lt_of_not_le hx)⟩
theorem OnlyX.belowU (h : Below w.heap.size w w') : OnlyX X w w' := ⟨h.os, h.tape, h.output, h.size, fun i hi _ => h.block i hi⟩
theorem OnlyX.keep (h : OnlyX X w w') (hb : Below w'.heap.size w' w2) : OnlyX X w w2 := h.trans (OnlyX.belowU hb)
theorem OnlyX.alloc (h : OnlyX X w w') (o : Obj) : OnlyX X w (w'.alloc o) := h.keep (keep_alloc (Below.refl _ _) o)
theorem OnlyX.drew (h : OnlyX X w w') : OnlyX X w w'.drew := ⟨h.os, h.tape, h.output, h.size, h.block⟩
theorem OnlyX.set (h : OnlyX X w w') {p : Addr} (hp : p.block < w.heap.size → X p.block) (u : Value) : OnlyX X w (w'.setCell p u) :=
  ⟨h.os, h.tape, h.output, by simpa using h.size, fun i hi hx => (Below.heap_setCell w' p u i (fun e => hx (e ▸ hp (e ▸ hi)))).trans (h.block i hi hx)⟩
theorem OnlyX.row {row : Option Nat} (h : OnlyX X w w') (hg : w'.grownBy w2 row) (hr : ∀ i, row = some i → i < w.heap.size → X i) : OnlyX X w w2 :=
  h.more (OnlyX.grown hg) fun i hi e => hr i e hi
theorem Reads.onlyX (hr : Reads w w.heap.size s A n c xs) (hf : FarX X n A) (h : OnlyX X w w') : Reads w' w'.heap.size s A n c xs :=
  ⟨hr.len, hr.le, hr.cap, hr.none_, fun hn => by
    obtain ⟨b, off, e, hb, hc⟩ := hr.at_ hn
    exact ⟨b, off, e, Nat.lt_of_lt_of_le hb h.size, fun j u hu => (World.cell?_of_block (a := ⟨b, _, none⟩) (h.block b hb (hf b off hn e))).trans (hc j u hu)⟩⟩
theorem Reads.onlyX2 (hr : Reads w w.heap.size s A n c xs) (hf : ∀ b off, 0 < n → A = some ⟨b, off, none⟩ → b < w.heap.size → ¬ X b) (h : OnlyX X w w') : Reads w' w'.heap.size s A n c xs :=
  hr.onlyX (X := fun i => X i ∧ i < w.heap.size) (fun b off hn e hx => hf b off hn e hx.2 hx.1) (h.mono fun _ hi hx => ⟨hx, hi⟩)
theorem own_onlyX {base : Nat} {e : TypeId} {v : Value} (h : w.ownsRow base e s v n xs) (ho : OnlyX X w w') (hx : ∀ i, v.ownBlock = some i → ¬ X i) : w'.ownsRow base e s v n xs := by
  rcases h.2 with h2 | ⟨g, cap, cur, rfl, hb, hg, r⟩
  · exact ⟨h.1, .inl h2⟩
  · exact ⟨h.1, .inr ⟨g, cap, cur, rfl, hb, (ho.block g (Array.getElem?_eq_some_iff.1 hg).1 (hx g rfl)).trans hg, r⟩⟩
theorem Blk.onlyX (hb : Blk w g t cs) (hx : ¬ X g) (h : OnlyX X w w') : Blk w' g t cs := (h.block g hb.lt hx).trans hb
theorem FarX.mono (h : FarX X n A) (hxy : ∀ i, Y i → X i) : FarX Y n A := fun b off hn e hy => h b off hn e (hxy b hy)
theorem FarX.nil : FarX X 0 A := fun _ _ hn => absurd hn (by omega)
theorem FarX.none_ : FarX X n none := fun _ _ _ e => by cases e
theorem FarX.at' {b off : Nat} (h : ¬ X b) : FarX X n (some ⟨b, off, none⟩) := fun b' off' _ e => by cases e; exact h
/-- what a row of the call's own is: a block that is known whole -/
theorem own_block {w : World} {base n s : Nat} {e : TypeId} {v : Value} {xs : List Value} (h : w.ownsRow base e s v n xs) (hn : 0 < n) (hs : 0 < s) : ∃ g cap cur, v = .slice (some ⟨g, 0, none⟩) n cap ∧ base ≤ g ∧ Blk w g e cur ∧ n ≤ cap ∧ cap ≤ maxLen ∧ cur.size = cap * s ∧ cur.toList.take (n * s) = xs := by
  rcases h.2 with ⟨rfl, hx⟩ | ⟨g, cap, cur, rfl, hb, hg, h1, h2, h3, h4⟩
  · exfalso
    have hl := h.1
    have := Nat.mul_le_mul hn hs
    subst hx
    simp at hl
    omega
  · exact ⟨g, cap, cur, rfl, hb, hg, h1, h2, h3, h4⟩
end
end Go.Proofs.YtnnchinpmnpfiaaDoor
/- Rows of the call's own lie apart where their elements' types differ. No program in sight. -/
namespace Go.Proofs.YtnnchinpmnpfiaaDoor
open Go.RowKit
theorem own_apart {w : World} {b1 b2 s1 s2 n1 n2 : Nat} {e1 e2 : TypeId} {v1 v2 : Value} {xs1 xs2 : List Value} (h1 : w.ownsRow b1 e1 s1 v1 n1 xs1) (h2 : w.ownsRow b2 e2 s2 v2 n2 xs2) (hne : e1 ≠ e2) : v1.ownBlock = none ∨ v1.ownBlock ≠ v2.ownBlock := by
  rcases h1.2 with ⟨rfl, -⟩ | ⟨g1, cap1, cur1, rfl, -, hg1, -⟩
  · exact Or.inl rfl
  · rcases h2.2 with ⟨rfl, -⟩ | ⟨g2, cap2, cur2, rfl, -, hg2, -⟩
    · right; simp [Value.ownBlock]
    · right
      simp only [Value.ownBlock, ne_eq, Option.some.injEq]
      intro e
      rw [e, hg2] at hg1
      simp only [Option.some.injEq, Obj.cells.injEq] at hg1
      exact hne hg1.2.1.symm
/-- a row that another row's append leaves -/
theorem own_other {w w' : World} {b1 b2 s1 s2 n1 n2 : Nat} {e1 e2 : TypeId} {v1 v2 : Value} {xs1 xs2 : List Value} (h1 : w.ownsRow b1 e1 s1 v1 n1 xs1) (h2 : w.ownsRow b2 e2 s2 v2 n2 xs2) (hne : e1 ≠ e2) (hg : w.grownBy w' v2.ownBlock) : w'.ownsRow b1 e1 s1 v1 n1 xs1 :=
  h1.kept hg (own_apart h1 h2 hne)
/-- a store into a row -/
theorem own_store {w : World} {b1 b2 s1 s2 n1 n2 g c : Nat} {e1 e2 : TypeId} {v1 : Value} {xs1 xs2 : List Value} (h1 : w.ownsRow b1 e1 s1 v1 n1 xs1) (h2 : w.ownsRow b2 e2 s2 (.slice (some ⟨g, 0, none⟩) n2 c) n2 xs2) (hne : e1 ≠ e2) (k : Nat) (u : Value) : (w.setCell ⟨g, k, none⟩ u).ownsRow b1 e1 s1 v1 n1 xs1 :=
  own_other h1 h2 hne (h2.stored k u).2
/-- blocks outside of the row that was written -/
theorem blk_other {w w' : World} {b n s g : Nat} {e t : TypeId} {v : Value} {xs : List Value} {cs : Array Value} (hB : w.heap[g]? = some (.cells cs t (0, 0))) (h : w.ownsRow b e s v n xs) (hlt : g < b) (hg : w.grownBy w' v.ownBlock) : w'.heap[g]? = some (.cells cs t (0, 0)) :=
  (hg.block g (Array.getElem?_eq_some_iff.1 hB).1 (own_ne h (Or.inl hlt))).trans hB
theorem below_own {w w' : World} {base b n s : Nat} {e : TypeId} {v : Value} {xs : List Value} (h : w.ownsRow b e s v n xs) (hg : w.grownBy w' v.ownBlock) (hb : base ≤ b) (hbw : base ≤ w.heap.size) : Below base w w' :=
  (Below.refl base w).grown hg hbw (fun _ hk => Nat.le_trans hb (h.lt _ hk).1)
end Go.Proofs.YtnnchinpmnpfiaaDoor

/- What a slice holds: a predicate on worlds, and how it is kept. No program in sight. -/
import Derived.Handy
import Derived.Lib.Hide
import Derived.Deep.Draws
import Derived.Laws.OwnMore
import Derived.Laws.AppendOwnNone
import Derived.Maps.AppendAt
namespace Go.Proofs.YtnnchinpmnpfiaaDoor
open Go.RowKit

/-- The slice value '.slice A n c' holds the cells xs ('size' an element) and lies below block B. -/
structure Reads (w : World) (B size : Nat) (A : Option Addr) (n c : Nat) (xs : List Value) : Prop where
  len : xs.length = n * size
  le : n ≤ c
  cap : c ≤ maxLen
  none_ : A = none → c = 0
  at_ : 0 < n → ∃ b off, A = some ⟨b, off, none⟩ ∧ b < B ∧ ∀ j u, xs[j]? = some u → w.cell? ⟨b, off + j, none⟩ = some u

section
variable {w w' : World} {B B' size n c : Nat} {A : Option Addr} {xs : List Value}
theorem Reads.nil : Reads w B size none 0 0 [] := ⟨by simp, Nat.le_refl _, Nat.zero_le _, fun _ => rfl, fun h => absurd h (by omega)⟩
theorem Reads.keep (h : Reads w B size A n c xs) (hk : ∀ b o, b < B → w'.cell? ⟨b, o, none⟩ = w.cell? ⟨b, o, none⟩) : Reads w' B size A n c xs :=
  ⟨h.len, h.le, h.cap, h.none_, fun hn => by
    obtain ⟨b, off, e, hb, hc⟩ := h.at_ hn
    exact ⟨b, off, e, hb, fun j u hu => (hk _ _ hb).trans (hc j u hu)⟩⟩
theorem Reads.more (h : Reads w B size A n c xs) (hB : B ≤ B') : Reads w B' size A n c xs :=
  ⟨h.len, h.le, h.cap, h.none_, fun hn => by
    obtain ⟨b, off, e, hb, hc⟩ := h.at_ hn
    exact ⟨b, off, e, by omega, hc⟩⟩
theorem Reads.below (h : Reads w B size A n c xs) (hb : Below B w w') : Reads w' B size A n c xs := h.keep fun b o hp => hb.cell (p := ⟨b, o, none⟩) hp
theorem Reads.belowU (h : Reads w w.heap.size size A n c xs) (hb : Below w.heap.size w w') : Reads w' w'.heap.size size A n c xs := (h.below hb).more hb.size
theorem Reads.drew (h : Reads w B size A n c xs) : Reads w.drew B size A n c xs := h.keep fun _ _ _ => rfl
theorem Reads.drewN (h : Reads w B size A n c xs) (k : Nat) : Reads (w.drewN k) B size A n c xs := h.keep fun _ _ _ => rfl
theorem Reads.alloc (h : Reads w B size A n c xs) (hB : B ≤ w.heap.size) (o : Obj) : Reads (w.alloc o) B size A n c xs :=
  h.keep fun b _ hp => World.cell?_alloc_lt w o ⟨b, _, none⟩ (by show b < _; omega)
theorem Reads.setCell (h : Reads w B size A n c xs) {p : Addr} (hB : B ≤ p.block) (u : Value) : Reads (w.setCell p u) B size A n c xs :=
  h.keep fun b _ hq => World.cell?_setCell_other w p ⟨b, _, none⟩ u (fun e => by subst e; simp at hB; omega)
theorem Reads.grown (h : Reads w B size A n c xs) {row : Option Nat} (hg : w.grownBy w' row) (hB : B ≤ w.heap.size) (hr : ∀ g, row = some g → B ≤ g) : Reads w' B size A n c xs :=
  h.keep fun b _ hp => World.cell?_of_block (a := ⟨b, _, none⟩) (hg.block b (by omega) (fun e => by have := hr _ e.symm; omega))
end
theorem flat_len {α : Type} (f : α → List Value) (s : Nat) (hs : ∀ a, (f a).length = s) (l : List α) : (l.flatMap f).length = l.length * s := by
  induction l with
  | nil => simp
  | cons a l ih => rw [List.flatMap_cons, List.length_append, hs, ih, List.length_cons, Nat.succ_mul]; omega
theorem flat_at {α : Type} (f : α → List Value) (s : Nat) (hs : ∀ a, (f a).length = s) (l : List α) (k j : Nat) (hj : j < s) (a : α) (h : l[k]? = some a) :
    (l.flatMap f)[k * s + j]? = (f a)[j]? := by
  induction l generalizing k with
  | nil => simp at h
  | cons b l ih =>
    cases k with
    | zero =>
      simp at h; subst h
      rw [List.flatMap_cons, Nat.zero_mul, Nat.zero_add, List.getElem?_append_left (by rw [hs]; exact hj)]
    | succ k =>
      simp at h
      rw [List.flatMap_cons, List.getElem?_append_right (by rw [hs, Nat.succ_mul]; omega), hs, ← ih k h]
      congr 1
      rw [Nat.succ_mul]; omega
/-- element k of a slice whose elements are the values a of l, a's cells being 'f a' -/
theorem Reads.elem {α : Type} {w : World} {B s n c : Nat} {A : Option Addr} {f : α → List Value} {l : List α} (h : Reads w B s A n c (l.flatMap f)) (hs : ∀ a, (f a).length = s) (h0 : 0 < s) {k : Nat} (hk : k < n) :
    ∃ b off a, A = some ⟨b, off, none⟩ ∧ b < B ∧ l[k]? = some a ∧ ∀ j u, (f a)[j]? = some u → w.cell? ⟨b, off + k * s + j, none⟩ = some u := by
  obtain ⟨b, off, hA, hb, hc⟩ := h.at_ (by omega)
  have hl := h.len
  rw [flat_len f s hs] at hl
  have hl' : l.length = n := Nat.eq_of_mul_eq_mul_right h0 hl
  have hk' : k < l.length := by omega
  refine ⟨b, off, l[k], hA, hb, List.getElem?_eq_getElem hk', fun j u hu => ?_⟩
  have hj : j < s := by rw [← hs (l[k])]; exact (List.getElem?_eq_some_iff.1 hu).1
  rw [Nat.add_assoc]
  exact hc _ u (by rw [flat_at f s hs l k j hj _ (List.getElem?_eq_getElem hk')]; exact hu)
theorem Reads.length {α : Type} {w : World} {B s n c : Nat} {A : Option Addr} {f : α → List Value} {l : List α} (h : Reads w B s A n c (l.flatMap f)) (hs : ∀ a, (f a).length = s) (h0 : 0 < s) : l.length = n := by
  have hl := h.len
  rw [flat_len f s hs] at hl
  exact Nat.eq_of_mul_eq_mul_right h0 hl
theorem drop_at {α : Type} {l : List α} {k : Nat} {a : α} (h : l[k]? = some a) : l.drop k = a :: l.drop (k + 1) := by
  obtain ⟨hk, rfl⟩ := List.getElem?_eq_some_iff.1 h
  exact List.drop_eq_getElem_cons hk
theorem drop_end {α : Type} {l : List α} {k n : Nat} (hl : l.length = n) (h : ¬ k < n) : l.drop k = [] := List.drop_eq_nil_of_le (by omega)
/-- 't' is a slice type of elements 'e', each of 'size' cells and 'bytes' bytes -/
structure SlTy (P : Program) (t e : TypeId) (size bytes : Nat) : Prop where
  und : P.underlying t = some (.slice e)
  info : ∃ i z, P.info? e = some i ∧ i.zero = some z ∧ i.size = size ∧ i.bytes = bytes ∧ z.cells.size = size
  pos : 0 < size
theorem SlTy.mk' {P : Program} {t e : TypeId} {size bytes : Nat} {z : Value} (hu : P.underlying t = some (.slice e)) (hi : (P.info? e).map (fun i => (i.zero, i.size, i.bytes)) = some (some z, size, bytes)) (hz : z.cells.size = size) (h0 : 0 < size) : SlTy P t e size bytes := by
  obtain ⟨i, h1, h2, h3, h4⟩ := info_parts hi
  exact ⟨hu, ⟨i, z, h1, h2, h3, h4, hz⟩, h0⟩

section
variable {P : Program} {w : World} {t e : TypeId} {size bytes base n B m c : Nat} {v : Value} {xs news : List Value} {A : Option Addr}
theorem run_app (ty : TypeId) (hT : SlTy P t e size bytes) (hown : w.ownsRow base e size v n xs) (hr : Reads w B size A m c news) (h1 : ∀ u ∈ news, u.oneCell' = true)
    (h63 : n + m ≤ maxLen) (hby : (n + m) * bytes ≤ 140737488355328) (hbase : base ≤ w.heap.size) :
    ∃ v' w', (Builtin.append_ #[t, t] ty #[v, .slice A m c]).run P w = .ok v' w' ∧ w'.ownsRow base e size v' (n + m) (xs ++ news) ∧ w.grownBy w' v.ownBlock := by
  obtain ⟨hu, ⟨i, z, hi, hz, hs, hb, hzs⟩, h0⟩ := hT
  cases A with
  | none =>
    obtain rfl := hr.none_ rfl
    have hm : m = 0 := Nat.le_zero.1 hr.le
    subst hm
    have hn : news = [] := List.eq_nil_of_length_eq_zero (by simpa using hr.len)
    subst hn
    exact ⟨v, w, run_append_owned_none (P := P) (w := w) base t ty e i size hu hi v n xs hown, by simpa using hown, World.grownBy.refl w _⟩
  | some ad =>
    have hcells : ∀ j u, news[j]? = some u → w.cell? (ad.add j) = some u := by
      intro j u hj
      by_cases h : 0 < m
      · obtain ⟨b, off, he, _, hc⟩ := hr.at_ h
        injection he with he
        subst he
        have := hc j u hj
        unfold Addr.add
        split
        · rename_i h0; subst h0; simpa using this
        · exact this
      · have : news = [] := List.eq_nil_of_length_eq_zero (by rw [hr.len, show m = 0 by omega]; simp)
        subst this
        simp at hj
    obtain ⟨v', w', h2, h3, h4, _, _⟩ := run_append_own_at (P := P) w base t ty e i z size bytes hu hi hz hs hb hzs h0 v n xs hown ad m c news hr.len hcells h1 h63 hby hbase
    exact ⟨v', w', h2, h3, h4⟩

theorem wp_app {o : Oper} {a : Act} {K : Act → World → Prop} {Q : Exit → Act → World → Prop} (s x : Operand) (t : TypeId)
    (ho : o.op = .call { callee := .builtin .append, args := #[s, x], argTypes := #[t, t] }) (hT : SlTy P t e size bytes)
    (hs : a.eval s = v) (hown : w.ownsRow base e size v n xs) (hx : a.eval x = .slice A m c) (hr : Reads w B size A m c news) (h1 : ∀ u ∈ news, u.oneCell' = true)
    (h63 : n + m ≤ maxLen) (hby : (n + m) * bytes ≤ 140737488355328) (hbase : base ≤ w.heap.size)
    (h : ∀ v' w', w'.ownsRow base e size v' (n + m) (xs ++ news) → Below base w w' → K (a.put o.dst v') w') : o.wp P a w K Q := by
  obtain ⟨v', w', hrun, h2, h3⟩ := run_app (P := P) o.type hT hown hr h1 h63 hby hbase
  have hb : Below base w w' := (Below.refl base w).grown h3 hbase (fun k hk => (hown.lt k hk).1)
  unfold Oper.wp
  simp [execOp, ho, resolve, invoke, builtin, hs, hx, hrun, Result.andThen]
  exact h v' w' h2 hb

theorem wpList_app {ops : Array Oper} {rest : List Oper} {o : Oper} {a : Act} {Q : Exit → Act → World → Prop} (hgd : o.guard = none) (s x : Operand) (t : TypeId)
    (ho : o.op = .call { callee := .builtin .append, args := #[s, x], argTypes := #[t, t] }) (hT : SlTy P t e size bytes)
    (hs : a.eval s = v) (hown : w.ownsRow base e size v n xs) (hx : a.eval x = .slice A m c) (hr : Reads w B size A m c news) (h1 : ∀ u ∈ news, u.oneCell' = true)
    (h63 : n + m ≤ maxLen) (hby : (n + m) * bytes ≤ 140737488355328) (hbase : base ≤ w.heap.size)
    (h : ∀ v' w', w'.ownsRow base e size v' (n + m) (xs ++ news) → Below base w w' → wpList P ops Q rest (a.put o.dst v') w') : wpList P ops Q (o :: rest) a w :=
  wpList_plain hgd fun _ hK => wp_app s x t ho hT hs hown hx hr h1 h63 hby hbase fun v' w' h2 h3 => hK _ _ (h v' w' h2 h3)

theorem step_app {ops : Array Oper} {o : Oper} {a : Act} {K : Act → World → Prop} {Q : Exit → Act → World → Prop} {E : Prop} (hgd : o.guard = none) (s x : Operand) (t : TypeId)
    (ho : o.op = .call { callee := .builtin .append, args := #[s, x], argTypes := #[t, t] }) (hT : SlTy P t e size bytes)
    (hs : a.eval s = v) (hown : w.ownsRow base e size v n xs) (hx : a.eval x = .slice A m c) (hr : Reads w B size A m c news) (h1 : ∀ u ∈ news, u.oneCell' = true)
    (h63 : n + m ≤ maxLen) (hby : (n + m) * bytes ≤ 140737488355328) (hbase : base ≤ w.heap.size)
    (h : ∀ v' w', w'.ownsRow base e size v' (n + m) (xs ++ news) → Below base w w' → K (a.put o.dst v') w') :
    if Region.wanted o (yielded ops a.tmps) = true then Oper.wp P o a w K Q else E := by
  rw [if_pos (by simp [Region.wanted, hgd])]
  exact wp_app s x t ho hT hs hown hx hr h1 h63 hby hbase h
end

/-- a block that was just made, as a slice -/
theorem Reads.fresh (w : World) (cs : Array Value) (e : TypeId) (s m : Nat) (hl : cs.size = m * s) (hm : m ≤ maxLen) :
    Reads (w.alloc (.cells cs e)) (w.heap.size + 1) s (some ⟨w.heap.size, 0, none⟩) m m cs.toList :=
  ⟨by simpa using hl, Nat.le_refl _, hm, (fun h => by cases h), fun _ => ⟨_, _, rfl, Nat.lt_succ_self _, fun j u hu => by
    rw [Nat.zero_add, cell_of_row _ w.heap.size j cs e (0, 0) (heap_alloc_new w _)]
    simpa using hu⟩⟩
theorem Reads.freshAs (w : World) (cs : Array Value) (e : TypeId) (s m : Nat) (xs : List Value) (hx : cs.toList = xs) (hl : cs.size = m * s) (hm : m ≤ maxLen) :
    Reads (w.alloc (.cells cs e)) (w.alloc (.cells cs e)).heap.size s (some ⟨w.heap.size, 0, none⟩) m m xs := by
  subst hx
  exact (Reads.fresh w cs e s m hl hm).more (by simp)
theorem Reads.freshAt (w : World) (cs : Array Value) (e : TypeId) (s m : Nat) (xs : List Value) (g : Nat) (hg : w.heap.size = g) (hx : cs.toList = xs) (hl : cs.size = m * s) (hm : m ≤ maxLen) :
    Reads (w.alloc (.cells cs e)) (w.alloc (.cells cs e)).heap.size s (some ⟨g, 0, none⟩) m m xs := by
  subst hg
  exact Reads.freshAs w cs e s m xs hx hl hm
/-- what the call itself has built, as a slice that is read -/
theorem Reads.own {w : World} {base n s : Nat} {e : TypeId} {v : Value} {xs : List Value} (h : w.ownsRow base e s v n xs) : ∃ A c, v = .slice A n c ∧ Reads w w.heap.size s A n c xs := by
  rcases h.2 with ⟨rfl, rfl⟩ | ⟨g, cap, cur, rfl, hb, hg, hn, hm, hs, ht⟩
  · have hx : xs = [] := List.eq_nil_of_length_eq_zero (by simpa using h.1)
    subst hx
    exact ⟨none, 0, rfl, Reads.nil⟩
  · refine ⟨_, _, rfl, h.1, hn, hm, (fun h => by cases h), fun _ => ⟨g, 0, rfl, (Array.getElem?_eq_some_iff.1 hg).1, fun j u hu => ?_⟩⟩
    rw [Nat.zero_add, cell_of_row w g j cur e (0, 0) hg]
    rw [← ht] at hu
    rw [List.getElem?_take] at hu
    split at hu
    · simpa using hu
    · cases hu
theorem keep_cell {W w1 : World} (hb : Below W.heap.size W w1) {a : Addr} {v : Value} (h : W.cell? a = some v) : w1.cell? a = some v :=
  (hb.cell (World.block_lt_of_cell? W a h)).trans h
theorem keep_below {W W0 w1 : World} (hb : Below W.heap.size W w1) (h : Below W0.heap.size W0 W) : Below W0.heap.size W0 w1 := h.trans (hb.mono h.size)
theorem keep_alloc {W0 w : World} (h : Below W0.heap.size W0 w) (o : Obj) : Below W0.heap.size W0 (w.alloc o) := h.alloc h.size o
theorem keep_set {W0 w : World} (h : Below W0.heap.size W0 w) {p : Addr} (hp : W0.heap.size ≤ p.block) (u : Value) : Below W0.heap.size W0 (w.setCell p u) := h.setCell hp u
theorem own_keep {w w' : World} {base e size n : Nat} {v : Value} {xs : List Value} (h : w.ownsRow base e size v n xs) (hb : Below w.heap.size w w') : w'.ownsRow base e size v n xs :=
  h.kept (row := none) ⟨hb.os, hb.tape, hb.output, hb.size, fun i hi _ => hb.block i hi⟩ (by cases v.ownBlock <;> simp)
/-- block g is just the cells cs, none frozen -/
def Blk (w : World) (g : Nat) (t : TypeId) (cs : Array Value) : Prop := w.heap[g]? = some (.cells cs t (0, 0))
section
variable {w w1 : World} {g : Nat} {t : TypeId} {cs : Array Value}
theorem Blk.lt (h : Blk w g t cs) : g < w.heap.size := (Array.getElem?_eq_some_iff.1 h).1
theorem Blk.cell (h : Blk w g t cs) (i : Nat) (v : Value) (hv : cs[i]? = some v) : w.cell? ⟨g, i, none⟩ = some v := by
  rw [cell_of_row w g i cs t (0, 0) h]; exact hv
theorem Blk.free (h : Blk w g t cs) (i : Nat) : w.frozen? ⟨g, i, none⟩ = false := frozen_of_row w g i cs t h
theorem Blk.new (w : World) (cs : Array Value) (t : TypeId) : Blk (w.alloc (.cells cs t)) w.heap.size t cs := heap_alloc_new w _
theorem Blk.newAt (w : World) (cs : Array Value) (t : TypeId) (g : Nat) (hg : w.heap.size = g) : Blk (w.alloc (.cells cs t)) g t cs := by subst hg; exact Blk.new w cs t
theorem Blk.alloc (h : Blk w g t cs) (o : Obj) : Blk (w.alloc o) g t cs := (Below.heap_alloc w o g h.lt).trans h
theorem Blk.drew (h : Blk w g t cs) : Blk w.drew g t cs := h
theorem Blk.drewN (h : Blk w g t cs) (n : Nat) : Blk (w.drewN n) g t cs := h
theorem Blk.below (h : Blk w g t cs) (hb : Below w.heap.size w w1) : Blk w1 g t cs := (hb.block g h.lt).trans h
theorem Blk.belowB {B : Nat} (h : Blk w g t cs) (hb : Below B w w1) (hg : g < B) : Blk w1 g t cs := (hb.block g hg).trans h
theorem Blk.far (h : Blk w g t cs) {p : Addr} (hp : g ≠ p.block) (u : Value) : Blk (w.setCell p u) g t cs := (Below.heap_setCell w p u g hp).trans h
theorem Blk.set (h : Blk w g t cs) (i : Nat) (u : Value) : Blk (w.setCell ⟨g, i, none⟩ u) g t (cs.setIfInBounds i u) := by
  unfold Blk at h ⊢
  simp [World.setCell, Array.getElem?_modify, h]
end
/-- what an unknown later world still holds, as rules for the walk -/
theorem bcell {W w1 : World} (hb : Below W.heap.size W w1) : (∀ b o, b < W.heap.size → w1.cell? ⟨b, o, none⟩ = W.cell? ⟨b, o, none⟩) ∧ (∀ b o, b < W.heap.size → w1.frozen? ⟨b, o, none⟩ = W.frozen? ⟨b, o, none⟩) :=
  ⟨fun b o h => hb.cell (p := ⟨b, o, none⟩) h, fun b o h => hb.frozen (p := ⟨b, o, none⟩) h⟩
theorem below_drewN {B : Nat} {a w : World} (h : Below B a w) (n : Nat) : Below B a (w.drewN n) := ⟨h.os, h.tape, h.output, h.size, h.block⟩
end Go.Proofs.YtnnchinpmnpfiaaDoor

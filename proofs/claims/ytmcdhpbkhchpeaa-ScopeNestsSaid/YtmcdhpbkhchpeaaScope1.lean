/- Local handles: what they read as, and which are consistent. -/
import Derived.Test.YtmcdhpbkhchpeaaOpen
import Derived.Test.YtmcdhpbkhchpeaaNum
import Derived.Test.YtmcdhpbkhchpeaaLag
import Derived.WalkSpells
import Derived.BigQuiet
import Derived.Deep.QuietTactic
namespace Go.Proofs.Ytmcdhpbkhchpeaa
open Go.ChangeShapes Go.WideShapes Go.RowKit Words

structure Sl where
  stamp : Int
  ref : BitVec 64
  live : Bool
deriving DecidableEq
structure Sc where
  from_ : Int
  cap : Int
  base : Bool
deriving DecidableEq
def slCells (s : Sl) : List Value := [.int .i64 s.stamp, .int .u64 (U s.ref), .bool s.live]
def scCells (s : Sc) : List Value := [.int .i64 s.from_, .int .i64 s.cap, .bool s.base]
theorem slCells_len (s : Sl) : (slCells s).length = 3 := rfl
theorem scCells_len (s : Sc) : (scCells s).length = 3 := rfl
theorem inCells_len (s : Int) : (intCells s).length = 1 := rfl
theorem slCells_one (l : List Sl) : ∀ u ∈ l.flatMap slCells, u.oneCell' = true := by
  intro u hu
  rw [List.mem_flatMap] at hu
  obtain ⟨x, _, hx⟩ := hu
  simp only [slCells, List.mem_cons, List.not_mem_nil, or_false] at hx
  rcases hx with rfl | rfl | rfl <;> rfl
theorem scCells_one (l : List Sc) : ∀ u ∈ l.flatMap scCells, u.oneCell' = true := by
  intro u hu
  rw [List.mem_flatMap] at hu
  obtain ⟨x, _, hx⟩ := hu
  simp only [scCells, List.mem_cons, List.not_mem_nil, or_false] at hx
  rcases hx with rfl | rfl | rfl <;> rfl
theorem inCells_one (l : List Int) : ∀ u ∈ l.flatMap intCells, u.oneCell' = true := by
  intro u hu
  rw [List.mem_flatMap] at hu
  obtain ⟨x, _, hx⟩ := hu
  simp only [intCells, List.mem_cons, List.not_mem_nil, or_false] at hx
  subst hx; rfl
/-- local handles as a value: where the slots, the scopes, the issued stamps lie -/
abbrev locV (As : Option Addr) (ns cs : Nat) (Ap : Option Addr) (np cp : Nat) (Ai : Option Addr) (ni ci : Nat) : Value := .agg #[.slice As ns cs, .slice Ap np cp, .slice Ai ni ci]
theorem ret_sb {x y : Bool} (h : x = y) : Ending.returned (.bool x) = .returned (.bool y) := by rw [h]
theorem ret_si {x y : Int} (h : x = y) : Ending.returned (.int .i64 x) = .returned (.int .i64 y) := by rw [h]
theorem tySl : SlTy Try.prog 22 62 3 24 := SlTy.mk' (z := .agg #[.int .i64 0, .int .u64 0, .bool false]) Try.underlying22 (by kernel_rfl) rfl (by omega)
theorem tySc : SlTy Try.prog 23 59 3 24 := SlTy.mk' (z := .agg #[.int .i64 0, .int .i64 0, .bool false]) Try.underlying23 (by kernel_rfl) rfl (by omega)
theorem tyIn : SlTy Try.prog 24 3 1 8 := SlTy.mk' (z := .int .i64 0) Try.underlying24 (by kernel_rfl) rfl (by omega)
theorem tyWo : SlTy Try.prog 38 32 1 8 := SlTy.mk' (z := .int .u64 0) Try.underlying38 (by kernel_rfl) rfl (by omega)

/-- what local handles read as -/
structure LRd (w : World) (As : Option Addr) (ns cs : Nat) (Ap : Option Addr) (np cp : Nat) (Ai : Option Addr) (ni ci : Nat) (S : List Sl) (P : List Sc) (I : List Int) : Prop where
  s : Reads w w.heap.size 3 As ns cs (S.flatMap slCells)
  p : Reads w w.heap.size 3 Ap np cp (P.flatMap scCells)
  i : Reads w w.heap.size 1 Ai ni ci (I.flatMap intCells)
section
variable {w w' : World} {As Ap Ai : Option Addr} {ns cs np cp ni ci : Nat} {S : List Sl} {P : List Sc} {I : List Int}
theorem LRd.belowU (h : LRd w As ns cs Ap np cp Ai ni ci S P I) (hb : Below w.heap.size w w') : LRd w' As ns cs Ap np cp Ai ni ci S P I := ⟨h.s.belowU hb, h.p.belowU hb, h.i.belowU hb⟩
theorem LRd.alloc (h : LRd w As ns cs Ap np cp Ai ni ci S P I) (o : Obj) : LRd (w.alloc o) As ns cs Ap np cp Ai ni ci S P I := h.belowU (keep_alloc (Below.refl _ _) o)
theorem LRd.drew (h : LRd w As ns cs Ap np cp Ai ni ci S P I) : LRd w.drew As ns cs Ap np cp Ai ni ci S P I := h.belowU (Below.refl _ _).drew
theorem LRd.lens (h : LRd w As ns cs Ap np cp Ai ni ci S P I) : S.length = ns ∧ P.length = np ∧ I.length = ni :=
  ⟨h.s.length slCells_len (by omega), h.p.length scCells_len (by omega), h.i.length inCells_len (by omega)⟩
end
theorem loc_alloc (w : World) (t : TypeId) (a b c : Value) : Below w.heap.size w (w.alloc (.cells #[a, b, c] t)) := keep_alloc (Below.refl _ _) _
theorem LRd.nil (w : World) : LRd w none 0 0 none 0 0 none 0 0 [] [] [] := ⟨Reads.nil, Reads.nil, Reads.nil⟩

section
variable {H : Type} {enc : TypeId × Value → H} {w : World} {base b : Nat} {spare : Nat → Bool} {held : Bool}
theorem cells_bool {t : TypeId} {n : Nat} {cs : List Value} {y : DataW H × List MemPlace} (ht : Try.prog.underlying t = some .bool) (h : DataW.trod enc Try.prog w base spare held n t cs = some y) : ∃ x : Bool, cs = [.bool x] := by
  obtain ⟨a, rfl, _⟩ := DataW.trod_bool ht h
  exact ⟨a, rfl⟩
theorem cells_slot {n : Nat} {cs : List Value} {y : DataW H × List MemPlace} (h : DataW.trod enc Try.prog w base spare held n 62 cs = some y) : ∃ x : Sl, cs = slCells x ∧ True := by
  obtain ⟨hl, hf⟩ := cells_struct Try.underlying62 (by kernel_rfl) (by kernel_rfl) h
  obtain ⟨v0, m0, z0, e0, t0⟩ := hf 0 _ rfl
  obtain ⟨v1, m1, z1, e1, t1⟩ := hf 1 _ rfl
  obtain ⟨v2, m2, z2, e2, t2⟩ := hf 2 _ rfl
  obtain ⟨a0, ha0, r0⟩ := cells_i64 Try.underlying3 t0
  obtain ⟨a1, ha1⟩ := cells_word Try.underlying32 t1
  obtain ⟨a2, ha2⟩ := cells_bool Try.underlying4 t2
  simp only [List.cons.injEq, and_true] at ha0 ha1 ha2
  subst ha0 ha1 ha2
  exact ⟨⟨a0, a1, a2⟩, list3 hl e0 e1 e2, trivial⟩
theorem cells_scope {n : Nat} {cs : List Value} {y : DataW H × List MemPlace} (h : DataW.trod enc Try.prog w base spare held n 59 cs = some y) : ∃ x : Sc, cs = scCells x ∧ True := by
  obtain ⟨hl, hf⟩ := cells_struct Try.underlying59 (by kernel_rfl) (by kernel_rfl) h
  obtain ⟨v0, m0, z0, e0, t0⟩ := hf 0 _ rfl
  obtain ⟨v1, m1, z1, e1, t1⟩ := hf 1 _ rfl
  obtain ⟨v2, m2, z2, e2, t2⟩ := hf 2 _ rfl
  obtain ⟨a0, ha0, r0⟩ := cells_i64 Try.underlying3 t0
  obtain ⟨a1, ha1, r1⟩ := cells_i64 Try.underlying3 t1
  obtain ⟨a2, ha2⟩ := cells_bool Try.underlying4 t2
  simp only [List.cons.injEq, and_true] at ha0 ha1 ha2
  subst ha0 ha1 ha2
  exact ⟨⟨a0, a1, a2⟩, list3 hl e0 e1 e2, trivial⟩
set_option maxRecDepth 100000 in
theorem open_loc {v : Value} {d : DataW H} {ps : List MemPlace} (hv : Value.okWide Try.prog w .any b 26 v) (h : DataW.Trod enc Try.prog w base spare held 26 v d ps) :
    ∃ As ns cs Ap np cp Ai ni ci S P I, v = locV As ns cs Ap np cp Ai ni ci ∧ LRd w As ns cs Ap np cp Ai ni ci S P I := by
  obtain ⟨cs, rfl, _⟩ := okWide_struct Try.underlying26 hv
  obtain ⟨fuel, hf'⟩ := h
  obtain ⟨hl, hf⟩ := cells_struct Try.underlying26 (by kernel_rfl) (by kernel_rfl) hf'
  obtain ⟨v0, m0, z0, e0, t0⟩ := hf 0 _ rfl
  obtain ⟨v1, m1, z1, e1, t1⟩ := hf 1 _ rfl
  obtain ⟨v2, m2, z2, e2, t2⟩ := hf 2 _ rfl
  obtain ⟨As, ns, c0, S, he0, h0, -⟩ := cells_seq slCells (fun _ => True) Try.underlying22 (by kernel_rfl) (by omega) (fun n cs' y hy => cells_slot hy) slCells_len t0
  obtain ⟨Ap, np, c1, P, he1, h1, -⟩ := cells_seq scCells (fun _ => True) Try.underlying23 (by kernel_rfl) (by omega) (fun n cs' y hy => cells_scope hy) scCells_len t1
  obtain ⟨Ai, ni, c2, I, he2, h2, -⟩ := cells_seq intCells (fun _ => True) Try.underlying24 (by kernel_rfl) (by omega) (fun n cs' y hy => (cells_i64 Try.underlying3 hy).imp fun x hx => ⟨hx.1, trivial⟩) inCells_len t2
  simp only [List.cons.injEq, and_true] at he0 he1 he2
  subst he0 he1 he2
  refine ⟨As, ns, c0, Ap, np, c1, Ai, ni, c2, S, P, I, ?_, h0, h1, h2⟩
  have := list3 hl e0 e1 e2
  simp only [Value.cells] at this
  rw [← Array.toArray_toList (xs := cs), this]
end

/-! ### which local handles are consistent -/
def seg (S : List Sl) (a b : Nat) : List Sl := (S.drop a).take (b - a)
def cntLive (S : List Sl) : Nat := S.countP (·.live)
def toN (S : List Sl) (P : List Sc) (k : Nat) : Nat := match P[k + 1]? with | some q => q.from_.toNat | none => S.length
def liveAt (S : List Sl) (P : List Sc) (k : Nat) : Nat := match P[k]? with | some q => cntLive (seg S q.from_.toNat (toN S P k)) | none => 0
def nestGo (ns : Nat) : List Sc → Int → Bool → Bool
  | [], _, _ => true
  | s :: r, f, first => if (first = true ∧ (s.from_ ≠ 0 ∨ s.base = false)) ∨ s.from_ < f ∨ s.from_ > ns ∨ s.cap < 0 ∨ s.cap > 64 then false else nestGo ns r s.from_ false
def nestedB (S : List Sl) (P : List Sc) : Bool := if P.length > 64 ∨ (P.length = 0 ∧ S.length > 0) then false else nestGo S.length P 0 true
def stampGo (I : List Int) : List Sl → Nat → Int → Bool
  | [], _, _ => true
  | s :: r, i, last => if s.stamp ≤ last ∨ s.stamp > I.length ∨ I[(s.stamp - 1).toNat]? ≠ some (i : Int) ∨ s.live = (s.ref == 0#64) then false else stampGo I r (i + 1) s.stamp
def roomK (S : List Sl) (P : List Sc) (k : Nat) : Bool := match P[k]? with | some q => decide ((liveAt S P k : Int) ≤ q.cap) | none => true
def roomB (S : List Sl) (P : List Sc) : Bool := (List.range P.length).all (roomK S P)
def badIss (i : Int) : Bool := decide (i < 0) || decide (4096 ≤ i)
def issB (I : List Int) : Bool := decide (I.length ≤ 4096) && !(I.any badIss)
def validL (S : List Sl) (P : List Sc) (I : List Int) : Bool := issB I && (nestedB S P && (stampGo I S 0 0 && roomB S P))

/-- what nested scopes say -/
theorem nestGo_facts {ns : Nat} : ∀ {P : List Sc} {f : Int} {b : Bool}, nestGo ns P f b = true → ∀ (k : Nat) (q : Sc), P[k]? = some q → f ≤ q.from_ ∧ q.from_ ≤ (ns : Int) ∧ 0 ≤ q.cap ∧ q.cap ≤ 64 ∧ ∀ q' : Sc, P[k + 1]? = some q' → q.from_ ≤ q'.from_ := by
  intro P
  induction P with
  | nil => intro f b _ k q h; simp at h
  | cons s r ih =>
    intro f b h k q hk
    rw [nestGo] at h
    split at h
    · cases h
    · rename_i hn
      have h1 : f ≤ s.from_ ∧ s.from_ ≤ ns ∧ 0 ≤ s.cap ∧ s.cap ≤ 64 := by
        refine ⟨?_, ?_, ?_, ?_⟩ <;> (apply Int.not_lt.1; intro hc; exact hn (by simp [hc]))
      cases k with
      | zero =>
        simp at hk; subst hk
        refine ⟨h1.1, h1.2.1, h1.2.2.1, h1.2.2.2, fun q' hq' => ?_⟩
        simp at hq'
        exact (ih h 0 q' hq').1
      | succ k =>
        simp at hk
        obtain ⟨a1, a2, a3, a4, a5⟩ := ih h k q hk
        exact ⟨by omega, a2, a3, a4, fun q' hq' => a5 q' (by simpa using hq')⟩
theorem nestedB_go {S : List Sl} {P : List Sc} (h : nestedB S P = true) : nestGo S.length P 0 true = true ∧ P.length ≤ 64 ∧ (P.length = 0 → S.length = 0) := by
  unfold nestedB at h
  split at h
  · cases h
  · rename_i hn
    refine ⟨h, by have := fun e => hn (Or.inl e); omega, fun e => ?_⟩
    have := fun e' => hn (Or.inr ⟨e, e'⟩)
    omega
theorem nested_at {S : List Sl} {P : List Sc} (h : nestedB S P = true) {k : Nat} {q : Sc} (hq : P[k]? = some q) : 0 ≤ q.from_ ∧ q.from_ ≤ S.length ∧ 0 ≤ q.cap ∧ q.cap ≤ 64 ∧ q.from_.toNat ≤ toN S P k ∧ toN S P k ≤ S.length ∧ (∀ q', P[k + 1]? = some q' → 0 ≤ q'.from_) := by
  obtain ⟨hg, -, -⟩ := nestedB_go h
  obtain ⟨a1, a2, a3, a4, a5⟩ := nestGo_facts hg k q hq
  have h6 : ∀ q', P[k + 1]? = some q' → 0 ≤ q'.from_ := fun q' hq' => (nestGo_facts hg (k + 1) q' hq').1
  refine ⟨a1, a2, a3, a4, ?_, ?_, h6⟩
  · unfold toN
    cases hq' : P[k + 1]? with
    | none => dsimp only; omega
    | some q' => dsimp only; have := a5 q' hq'; omega
  · unfold toN
    cases hq' : P[k + 1]? with
    | none => dsimp only; omega
    | some q' => dsimp only; have := (nestGo_facts hg (k + 1) q' hq').2.1; omega
theorem seg_len (S : List Sl) (a b : Nat) (h : a ≤ b) (hb : b ≤ S.length) : (seg S a b).length = b - a := by unfold seg; rw [List.length_take, List.length_drop]; omega
/-- a part of a slice, of elements of whatever size -/
theorem add_atS (b off i : Nat) : (⟨b, off, none⟩ : Addr).add i = ⟨b, off + i, none⟩ := by unfold Addr.add; split <;> simp_all
theorem flat_drop {α : Type} (f : α → List Value) (s : Nat) (hs : ∀ a, (f a).length = s) (l : List α) (i : Nat) : (l.flatMap f).drop (i * s) = (l.drop i).flatMap f := by
  induction l generalizing i with
  | nil => simp
  | cons a r ih =>
    cases i with
    | zero => simp
    | succ i =>
      rw [List.flatMap_cons, List.drop_succ_cons, ← ih, Nat.succ_mul, ← hs a, Nat.add_comm, List.drop_append]
      simp
theorem flat_take {α : Type} (f : α → List Value) (s : Nat) (hs : ∀ a, (f a).length = s) (l : List α) (i : Nat) : (l.flatMap f).take (i * s) = (l.take i).flatMap f := by
  induction l generalizing i with
  | nil => simp
  | cons a r ih =>
    cases i with
    | zero => simp
    | succ i =>
      rw [List.flatMap_cons, List.take_succ_cons, List.flatMap_cons, ← ih, Nat.succ_mul, ← hs a, Nat.add_comm, List.take_append]
      simp
      rw [List.take_of_length_le (by omega)]
theorem Reads.cutN {α : Type} {f : α → List Value} {w : World} {B s n c b off : Nat} {l : List α} (h : Reads w B s (some ⟨b, off, none⟩) n c (l.flatMap f)) (hs : ∀ a, (f a).length = s) (h0 : 0 < s) {i k c' : Nat} (hik : i + k ≤ n) (hc' : k ≤ c') (hcm : c' ≤ maxLen) :
    Reads w B s (some ⟨b, off + i * s, none⟩) k c' (((l.drop i).take k).flatMap f) := by
  have hl := h.length hs h0
  refine ⟨by rw [flat_len f s hs, List.length_take, List.length_drop]; congr 1; omega, hc', hcm, (fun hn => by cases hn), fun hk => ?_⟩
  obtain ⟨b', off', he, hb, hc⟩ := h.at_ (by omega)
  simp only [Option.some.injEq, Addr.mk.injEq, and_true] at he
  obtain ⟨rfl, rfl⟩ := he
  refine ⟨b, off + i * s, rfl, hb, fun j u hu => ?_⟩
  rw [← flat_take f s hs, ← flat_drop f s hs] at hu
  have hj : j < k * s := by
    have := (List.getElem?_eq_some_iff.1 hu).1
    rw [List.length_take] at this; omega
  rw [List.getElem?_take, if_pos hj, List.getElem?_drop] at hu
  rw [Nat.add_assoc]
  exact hc _ u hu
theorem Reads.cutA {α : Type} {f : α → List Value} {w : World} {B s n c : Nat} {A : Option Addr} {l : List α} (h : Reads w B s A n c (l.flatMap f)) (hs : ∀ a, (f a).length = s) (h0 : 0 < s) {i k : Nat} (hik : i + k ≤ n) :
    Reads w B s (if c = i then A else Option.map (fun x => x.add (i * s)) A) k (c - i) (((l.drop i).take k).flatMap f) := by
  have hl := h.length hs h0
  have hle := h.le
  have hcap := h.cap
  by_cases hk : k = 0
  · subst hk
    refine ⟨by simp, Nat.zero_le _, by omega, fun hn => ?_, fun hn => absurd hn (by omega)⟩
    cases A with
    | none => have := h.none_ rfl; omega
    | some a => split at hn <;> cases hn
  · obtain ⟨b, off, rfl, hb, hc⟩ := h.at_ (by omega)
    rw [if_neg (by omega)]
    have := h.cutN hs h0 (i := i) (k := k) (c' := c - i) hik (by omega) (by omega)
    simpa [add_atS] using this
end Go.Proofs.Ytmcdhpbkhchpeaa

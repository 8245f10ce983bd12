/- Arguments opened: what a datum that was read says of its value. -/
import Derived.Test.YtnnchinpmnpfiaaDoorRows
import Derived.Test.YtnnchinpmnpfiaaDoorWords
import Derived.Test.YtnnchinpmnpfiaaDoorMem
import Derived.ProofKit
import Derived.OpenShut
import Derived.Deep.Slices
import Derived.Deep.Fields
namespace Go.Proofs.YtnnchinpmnpfiaaDoor
open Go.ChangeShapes Go.WideShapes Go.RowKit Words

def wordCells (x : BitVec 64) : List Value := [.int .u64 (U x)]
def intCells (x : Int) : List Value := [.int .i64 x]

section
variable {H : Type} {enc : TypeId × Value → H} {P : Program} {w : World} {base b : Nat} {spare : Nat → Bool} {held : Bool} {r : Reach}
theorem open_word {t : TypeId} {v : Value} {d : DataW H} {ps : List MemPlace} (ht : P.underlying t = some (.int .u64)) (hv : Value.okWide P w r b t v) (h : DataW.Trod enc P w base spare held t v d ps) :
    ∃ x : BitVec 64, v = .int .u64 (U x) := by
  obtain ⟨a, rfl, _, _, hw⟩ := open_int ht hv h
  obtain ⟨x, rfl⟩ := U_of a hw
  exact ⟨x, rfl⟩
theorem i64_range {n : Int} (h : (Lit.int .i64 n).wf = true) : -9223372036854775808 ≤ n ∧ n ≤ 9223372036854775807 := by
  simp [Lit.wf, IntKind.min, IntKind.max, IntKind.signed, IntKind.bits] at h
  omega
theorem open_i64 {t : TypeId} {v : Value} {d : DataW H} {ps : List MemPlace} (ht : P.underlying t = some (.int .i64)) (hv : Value.okWide P w r b t v) (h : DataW.Trod enc P w base spare held t v d ps) :
    ∃ n : Int, v = .int .i64 n ∧ -9223372036854775808 ≤ n ∧ n ≤ 9223372036854775807 := by
  obtain ⟨a, rfl, _, _, hw⟩ := open_int ht hv h
  exact ⟨a, rfl, i64_range hw⟩

/-! the same of cells -/
theorem cells_word {t : TypeId} {n : Nat} {cs : List Value} {y : DataW H × List MemPlace} (ht : P.underlying t = some (.int .u64)) (h : DataW.trod enc P w base spare held n t cs = some y) :
    ∃ x : BitVec 64, cs = [.int .u64 (U x)] := by
  obtain ⟨a, rfl, _, hw⟩ := DataW.trod_int ht h
  obtain ⟨x, rfl⟩ := U_of a hw
  exact ⟨x, rfl⟩
theorem cells_i64 {t : TypeId} {n : Nat} {cs : List Value} {y : DataW H × List MemPlace} (ht : P.underlying t = some (.int .i64)) (h : DataW.trod enc P w base spare held n t cs = some y) :
    ∃ x : Int, cs = [.int .i64 x] ∧ -9223372036854775808 ≤ x ∧ x ≤ 9223372036854775807 := by
  obtain ⟨a, rfl, _, hw⟩ := DataW.trod_int ht h
  exact ⟨a, rfl, i64_range hw⟩

/-- a slice of whatever elements: if every reading of an element's cells has the form 'f a' with 'good a', the slice reads so -/
theorem cells_seq {α : Type} (f : α → List Value) (good : α → Prop) {t e : TypeId} {s fuel : Nat} {cs : List Value} {x : DataW H × List MemPlace} (ht : P.underlying t = some (.slice e)) (hs : P.cellsOf e = s) (h0 : 0 < s)
    (hel : ∀ n cs' y, DataW.trod enc P w base spare held n e cs' = some y → ∃ a, cs' = f a ∧ good a) (hf : ∀ a, (f a).length = s)
    (h : DataW.trod enc P w base spare held fuel t cs = some x) :
    ∃ A n c, ∃ l : List α, cs = [.slice A n c] ∧ Reads w w.heap.size s A n c (l.flatMap f) ∧ ∀ a ∈ l, good a := by
  rcases Go.Deep.open_slice ht h with ⟨rfl, _⟩ | ⟨a, len, cap, m, n, D, Pl, rfl, hb, hl, hm, hmm, hx, hi⟩
  · exact ⟨none, 0, 0, [], rfl, Reads.nil, fun a ha => absurd ha (by simp)⟩
  · have hlm : len ≤ m := by rw [hmm]; split <;> omega
    have he : ∀ i, i < len → ∃ z : α, good z ∧ ∀ j u, (f z)[j]? = some u → w.cell? (a.add (i * s + j)) = some u := by
      intro i hil
      obtain ⟨cs', hc, ht'⟩ := hi i (by omega)
      obtain ⟨z, rfl, hz⟩ := hel _ _ _ ht'
      obtain ⟨_, hcl, hat⟩ := World.cells?_some hc
      refine ⟨z, hz, fun j u hu => ?_⟩
      have hj : j < P.cellsOf e := by rw [hs, ← hf z]; exact (List.getElem?_eq_some_iff.1 hu).1
      have := hat j hj
      rw [Go.Deep.add_add, hs] at this
      rw [this, hu]
    have hch : ∀ k, k ≤ len → ∃ l : List α, l.length = k ∧ (∀ z ∈ l, good z) ∧ ∀ i z, l[i]? = some z → ∀ j u, (f z)[j]? = some u → w.cell? (a.add (i * s + j)) = some u := by
      intro k
      induction k with
      | zero => intro _; exact ⟨[], rfl, by simp, by simp⟩
      | succ k ih =>
        intro hk
        obtain ⟨l, h1, h2, h3⟩ := ih (by omega)
        obtain ⟨z, hz, hzc⟩ := he k (by omega)
        refine ⟨l ++ [z], by simp [h1], fun y hy => ?_, fun i y hy => ?_⟩
        · rcases List.mem_append.1 hy with hy | hy
          · exact h2 y hy
          · simp at hy; subst hy; exact hz
        · by_cases hil : i < l.length
          · rw [List.getElem?_append_left hil] at hy; exact h3 i y hy
          · rw [List.getElem?_append_right (by omega)] at hy
            have hi0 : i - l.length = 0 := by
              rcases Nat.eq_zero_or_pos (i - l.length) with h | h
              · exact h
              · rw [List.getElem?_eq_none (by simp; omega)] at hy; cases hy
            rw [hi0] at hy
            simp at hy
            subst hy
            have : i = k := by omega
            subst this
            exact hzc
    obtain ⟨l, h1, h2, h3⟩ := hch len (Nat.le_refl _)
    refine ⟨some a, len, cap, l, rfl, ⟨by rw [flat_len f s hf, h1], hl, hm, (fun h => by cases h), fun hn => ?_⟩, h2⟩
    have hfirst : ∃ z, l[0]? = some z := ⟨l[0]'(by omega), List.getElem?_eq_getElem (by omega)⟩
    obtain ⟨z, hz⟩ := hfirst
    have hzl : 0 < (f z).length := by rw [hf]; exact h0
    have hc0 := h3 0 z hz 0 _ (List.getElem?_eq_getElem hzl)
    have hadd : a.add (0 * s + 0) = a := by simp [Addr.add]
    rw [hadd] at hc0
    have hsp := World.cell?_spot hc0
    have hlt := World.block_lt_of_cell? w a hc0
    obtain ⟨ab, ao, asp⟩ := a
    simp at hsp
    subst hsp
    refine ⟨ab, ao, rfl, hlt, fun j u hu => ?_⟩
    have hj : j < (l.flatMap f).length := (List.getElem?_eq_some_iff.1 hu).1
    rw [flat_len f s hf, h1] at hj
    have hdiv : j / s < l.length := by rw [h1]; exact (Nat.div_lt_iff_lt_mul h0).2 hj
    have hjj : j / s * s + j % s = j := by rw [Nat.mul_comm]; exact Nat.div_add_mod j s
    have hel := h3 (j / s) l[j / s] (List.getElem?_eq_getElem hdiv) (j % s)
    have hfa := flat_at f s hf l (j / s) (j % s) (Nat.mod_lt _ h0) _ (List.getElem?_eq_getElem hdiv)
    rw [hjj, hu] at hfa
    have := hel u hfa.symm
    rw [hjj] at this
    have hadd2 : (⟨ab, ao, none⟩ : Addr).add j = ⟨ab, ao + j, none⟩ := by unfold Addr.add; split <;> simp_all
    rw [hadd2] at this
    exact this

theorem open_seq {α : Type} (f : α → List Value) (good : α → Prop) {t e : TypeId} {s : Nat} {v : Value} {d : DataW H} {ps : List MemPlace} (ht : P.underlying t = some (.slice e)) (hs : P.cellsOf e = s) (h0 : 0 < s)
    (hel : ∀ n cs' y, DataW.trod enc P w base spare held n e cs' = some y → ∃ a, cs' = f a ∧ good a) (hf : ∀ a, (f a).length = s)
    (hv : Value.okWide P w r b t v) (h : DataW.Trod enc P w base spare held t v d ps) :
    ∃ A n c, ∃ l : List α, v = .slice A n c ∧ Reads w w.heap.size s A n c (l.flatMap f) ∧ ∀ a ∈ l, good a := by
  obtain ⟨A, n, c, rfl⟩ := okWide_slice ht hv
  obtain ⟨fuel, hf'⟩ := h
  obtain ⟨A', n', c', l, he, hr, hg⟩ := cells_seq f good ht hs h0 hel hf hf'
  simp only [Value.cells, List.cons.injEq, Value.slice.injEq, and_true] at he
  obtain ⟨rfl, rfl, rfl⟩ := he
  exact ⟨_, _, _, l, rfl, hr, hg⟩

theorem open_words {t e : TypeId} {v : Value} {d : DataW H} {ps : List MemPlace} (ht : P.underlying t = some (.slice e)) (he : P.underlying e = some (.int .u64)) (hs : P.cellsOf e = 1)
    (hv : Value.okWide P w r b t v) (h : DataW.Trod enc P w base spare held t v d ps) : ∃ A n c, ∃ l : List (BitVec 64), v = .slice A n c ∧ Reads w w.heap.size 1 A n c (l.flatMap wordCells) := by
  obtain ⟨A, n, c, l, h1, h2, _⟩ := open_seq wordCells (fun _ => True) ht hs (by omega) (fun n cs' y hy => (cells_word he hy).imp fun x hx => ⟨hx, trivial⟩) (fun _ => rfl) hv h
  exact ⟨A, n, c, l, h1, h2⟩
theorem open_i64s {t e : TypeId} {v : Value} {d : DataW H} {ps : List MemPlace} (ht : P.underlying t = some (.slice e)) (he : P.underlying e = some (.int .i64)) (hs : P.cellsOf e = 1)
    (hv : Value.okWide P w r b t v) (h : DataW.Trod enc P w base spare held t v d ps) : ∃ A n c, ∃ l : List Int, v = .slice A n c ∧ Reads w w.heap.size 1 A n c (l.flatMap intCells) ∧ ∀ x ∈ l, -9223372036854775808 ≤ x ∧ x ≤ 9223372036854775807 :=
  open_seq intCells (fun x => -9223372036854775808 ≤ x ∧ x ≤ 9223372036854775807) ht hs (by omega) (fun _ _ _ hy => cells_i64 he hy) (fun _ => rfl) hv h

/-- a struct of one-cell fields: its cells, one by one -/
theorem cells_struct {t : TypeId} {fs : Array Field} {n : Nat} {cs : List Value} {y : DataW H × List MemPlace} (ht : P.underlying t = some (.struct fs)) (hone : Go.Deep.oneCellFields P fs = true) (hC : P.cellsOf t = fs.size)
    (h : DataW.trod enc P w base spare held n t cs = some y) :
    cs.length = fs.size ∧ ∀ (i : Nat) (f : Field), fs[i]? = some f → ∃ (v : Value) (m : Nat) (z : DataW H × List MemPlace), cs[i]? = some v ∧ DataW.trod enc P w base spare held m f.type [v] = some z := by
  obtain ⟨ys, n', hn', hy, hlen, hyl, hf⟩ := DataW.trod_struct ht h
  refine ⟨by rw [hlen, hC], fun j f hj => ?_⟩
  obtain ⟨ho, hk⟩ := Go.Deep.hone_of hone j f hj
  have hjl : j < fs.size := (Array.getElem?_eq_some_iff.1 hj).1
  have hv : cs[j]? = some (cs[j]'(by omega)) := List.getElem?_eq_getElem (by omega)
  have h1 := hf j f hj
  rw [ho, hk] at h1
  have hone' : (cs.drop j).take 1 = [cs[j]'(by omega)] := by
    rw [List.drop_eq_getElem_cons (by omega)]
    rfl
  rw [hone'] at h1
  have hys : ys[j]? = some (ys[j]'(by omega)) := List.getElem?_eq_getElem (by omega)
  exact ⟨_, n', _, hv, h1.trans hys⟩
end

theorem list2 {cs : List Value} {a b : Value} (hl : cs.length = 2) (h0 : cs[0]? = some a) (h1 : cs[1]? = some b) : cs = [a, b] := by
  match cs, hl with
  | [_, _], _ => simp_all
theorem list3 {cs : List Value} {a b c : Value} (hl : cs.length = 3) (h0 : cs[0]? = some a) (h1 : cs[1]? = some b) (h2 : cs[2]? = some c) : cs = [a, b, c] := by
  match cs, hl with
  | [_, _, _], _ => simp_all
theorem list4 {cs : List Value} {a b c d : Value} (hl : cs.length = 4) (h0 : cs[0]? = some a) (h1 : cs[1]? = some b) (h2 : cs[2]? = some c) (h3 : cs[3]? = some d) : cs = [a, b, c, d] := by
  match cs, hl with
  | [_, _, _, _], _ => simp_all
theorem list5 {cs : List Value} {a b c d e : Value} (hl : cs.length = 5) (h0 : cs[0]? = some a) (h1 : cs[1]? = some b) (h2 : cs[2]? = some c) (h3 : cs[3]? = some d) (h4 : cs[4]? = some e) : cs = [a, b, c, d, e] := by
  match cs, hl with
  | [_, _, _, _, _], _ => simp_all
end Go.Proofs.YtnnchinpmnpfiaaDoor

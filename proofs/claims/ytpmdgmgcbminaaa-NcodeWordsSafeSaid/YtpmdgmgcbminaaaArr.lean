/- Arrays by value: a whole array out of and into a block; the comparison of arrays. No program in sight. -/
import Derived.Test.YtpmdgmgcbminaaaLag
import Derived.ChangeKeysEq
import Derived.Laws.StructEq
import Derived.Laws.Tables
import Derived.Laws.CopyOwn
import Derived.Deep.MidRow
namespace Go.Proofs.Ytpmdgmgcbminaaa
open Go.RowKit

section
variable {P : Program} {w u : World} {g h : Nat} {T e t t' : TypeId} {n B : Nat} {cs old ds : Array Value}
theorem ld_blk (hu : P.underlying T = some (.array n e)) (hi : (P.info? T).map (·.size) = some cs.size) (hb : Blk w g t cs) : (Instr.loadAt T (.pointer (some ⟨g, 0, none⟩))).run P w = .ok (.agg cs) w := by
  simp only [Instr.loadAt, Instr.sureAddr, Sem.run_bind, Sem.run_pure, Result.andThen]
  exact run_loadVar_row w g t T cs (0, 0) _ hb hu rfl hi
theorem st_blk (hi : (P.info? T).map (·.size) = some cs.size) (ho : old.size = cs.size) (h1 : cs.all (·.oneCell') = true) (hb : Blk w g t old) :
    (Instr.storeAt T (.pointer (some ⟨g, 0, none⟩)) (.agg cs)).run P w = .ok () (w.setRow g cs) := by
  simp only [Instr.storeAt, Instr.sureAddr, Sem.run_bind, Sem.run_pure, Result.andThen]
  exact run_storeVar_row w g t T old cs hb hi ho h1
theorem Blk.row (hb : Blk w g t old) (cs : Array Value) : Blk (w.setRow g cs) g t cs := setRow_heap w g old cs t (0, 0) hb
theorem Blk.rowFar (hb : Blk w h t ds) (hne : h ≠ g) (cs : Array Value) : Blk (w.setRow g cs) h t ds := (setRow_other w g h cs hne).trans hb
theorem keep_row {w0 : World} (hb : Below B w0 w) (hg : B ≤ g) (cs : Array Value) : Below B w0 (w.setRow g cs) := below_setRow hb hg cs
end
/-- the operations at a plain region's list -/
theorem wpList_ldB {P : Program} {ops : Array Oper} {rest : List Oper} {op : Oper} {a : Act} {w : World} {Q : Exit → Act → World → Prop} {T e t : TypeId} {n g : Nat} {x : Operand} {cs : Array Value} (hgd : op.guard = none) (ho : op.op = .load T x)
    (hx : a.eval x = .pointer (some ⟨g, 0, none⟩)) (hb : Blk w g t cs) (hu : P.underlying T = some (.array n e)) (hi : (P.info? T).map (·.size) = some cs.size)
    (h : wpList P ops Q rest (a.put op.dst (.agg cs)) w) : wpList P ops Q (op :: rest) a w := by
  refine wpList_plain hgd fun K hK => ?_
  unfold Oper.wp execOp
  simp only [ho, hx, Sem.run_bind, ld_blk hu hi hb, Result.andThen_ok, Sem.run_pure]
  exact hK _ _ h
theorem wpList_stB {P : Program} {ops : Array Oper} {rest : List Oper} {op : Oper} {a : Act} {w : World} {Q : Exit → Act → World → Prop} {T t : TypeId} {g : Nat} {x y : Operand} {cs old : Array Value} (hgd : op.guard = none) (ho : op.op = .store T x y)
    (hx : a.eval x = .pointer (some ⟨g, 0, none⟩)) (hy : a.eval y = .agg cs) (hb : Blk w g t old) (hz : old.size = cs.size) (hi : (P.info? T).map (·.size) = some cs.size) (h1 : cs.all (·.oneCell') = true)
    (h : wpList P ops Q rest (a.put op.dst undef) (w.setRow g cs)) : wpList P ops Q (op :: rest) a w := by
  refine wpList_plain hgd fun K hK => ?_
  unfold Oper.wp execOp
  simp only [ho, hx, hy, Sem.run_bind, st_blk hi hz h1 hb, Result.andThen_ok, Sem.run_pure]
  exact hK _ _ h
/-- items that are compared one after the other -/
theorem run_eqItems_all {P : Program} {α : Type} [DecidableEq α] {w : World} {d c : Nat} {e : TypeId} {xs ys : Array Value} {v : α → Value} {a b : Nat → α}
    (he : ∀ x y : α, (Op.equalIn d e (v x) (v y)).run P w = .ok (decide (x = y)) w) :
    ∀ is : List Nat, (∀ i ∈ is, (part e xs (i * c)).run P w = .ok (v (a i)) w ∧ (part e ys (i * c)).run P w = .ok (v (b i)) w) →
    (Op.eqItems d e c xs ys is).run P w = .ok (is.all fun i => decide (a i = b i)) w
  | [], _ => by simp [Op.eqItems]
  | i :: is, h => by
    obtain ⟨h1, h2⟩ := h i List.mem_cons_self
    have ih := run_eqItems_all he is (fun j hj => h j (List.mem_cons_of_mem _ hj))
    simp only [Op.eqItems, Sem.run_bind, h1, h2, he, Result.andThen_ok, List.all_cons]
    cases decide (a i = b i)
    · simp
    · simpa using ih
theorem list_all_eq {α : Type} [DecidableEq α] {l m : List α} {n : Nat} (hl : l.length = n) (hm : m.length = n) (d : α) : ((List.range n).all fun i => decide (l[i]?.getD d = m[i]?.getD d)) = decide (l = m) := by
  rw [Bool.eq_iff_iff, List.all_eq_true, decide_eq_true_eq]
  constructor
  · intro h
    apply List.ext_getElem?
    intro i
    by_cases hi : i < n
    · have := h i (List.mem_range.2 hi)
      rw [decide_eq_true_eq] at this
      rw [List.getElem?_eq_getElem (by omega), List.getElem?_eq_getElem (by omega)] at this ⊢
      simpa using this
    · rw [List.getElem?_eq_none (by omega), List.getElem?_eq_none (by omega)]
  · rintro rfl i _
    simp
end Go.Proofs.Ytpmdgmgcbminaaa

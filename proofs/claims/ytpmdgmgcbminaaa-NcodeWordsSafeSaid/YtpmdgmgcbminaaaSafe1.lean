/- The sorts of registers: the program's and the reference's form; the program's join. -/
import Derived.Test.YtpmdgmgcbminaaaArr
import Derived.Test.YtpmdgmgcbminaaaNCheck1
import Derived.Deep.CutBlock
import Derived.Deep.RegionHeld3
namespace Go.Proofs.Ytpmdgmgcbminaaa
open Go.ChangeShapes Go.WideShapes Go.RowKit Words

/-- the sort of a register: a word, stale, or raw: the address that the call at an index got -/
inductive Srt where
  | wd
  | stale
  | raw (i : Nat)
deriving DecidableEq
def Srt.kind : Srt → Int | .wd => 0 | .stale => 1 | .raw _ => 2
def Srt.at_ : Srt → Int | .wd => 0 | .stale => 0 | .raw i => i
def Srt.num : Srt → Int | .wd => 0 | .stale => 1 | .raw i => 2 + i
def srtCells (s : Srt) : List Value := [.int .i64 s.kind, .int .i64 s.at_]
theorem srtCells_len (s : Srt) : (srtCells s).length = 2 := rfl
def PS (l : List Srt) : Array Value := (l.flatMap srtCells).toArray
/-- eight numbers -/
def IS (l : List Int) : Array Value := (l.map (Value.int .i64)).toArray
def RS (l : List Srt) : Array Value := IS (l.map Srt.num)
theorem IS_size {l : List Int} (h : l.length = 8) : (IS l).size = 8 := by
  unfold IS; rw [List.size_toArray, List.length_map, h]
theorem IS_one (l : List Int) : (IS l).all (·.oneCell') = true := by
  rw [Array.all_eq_true_iff_forall_mem]
  intro v hv
  simp only [IS, List.mem_toArray, List.mem_map] at hv
  obtain ⟨s, -, rfl⟩ := hv; rfl
theorem IS_at {l : List Int} {i : Nat} {v : Int} (h : l[i]? = some v) : (IS l)[i]? = some (.int .i64 v) := by
  unfold IS
  rw [List.getElem?_toArray, List.getElem?_map, h]; rfl
theorem IS_set (l : List Int) (i : Nat) (v : Int) : (IS l).setIfInBounds i (.int .i64 v) = IS (l.set i v) := by
  apply Array.ext'
  unfold IS
  rw [Array.toList_setIfInBounds, List.map_set]
theorem RS_at {l : List Srt} {i : Nat} {s : Srt} (h : l[i]? = some s) : (RS l)[i]? = some (.int .i64 s.num) := IS_at (by rw [List.getElem?_map, h]; rfl)
theorem RS_set (l : List Srt) (i : Nat) (s : Srt) : (RS l).setIfInBounds i (.int .i64 s.num) = RS (l.set i s) := by
  unfold RS; rw [IS_set, List.map_set]
theorem PS_size {l : List Srt} (h : l.length = 8) : (PS l).size = 16 := by
  unfold PS; rw [List.size_toArray, flat_len srtCells 2 srtCells_len, h]
theorem PS_one (l : List Srt) : (PS l).all (·.oneCell') = true := by
  rw [Array.all_eq_true_iff_forall_mem]
  intro v hv
  simp only [PS, List.mem_toArray, List.mem_flatMap, srtCells, List.mem_cons, List.not_mem_nil, or_false] at hv
  obtain ⟨s, -, rfl | rfl⟩ := hv <;> rfl
theorem PS_at {l : List Srt} {i : Nat} {s : Srt} (h : l[i]? = some s) (j : Nat) (hj : j < 2) : (PS l)[i * 2 + j]? = (srtCells s)[j]? := by
  unfold PS
  rw [List.getElem?_toArray]
  exact flat_at srtCells 2 srtCells_len l i j hj s h
theorem flat_set {α : Type} (f : α → List Value) (n : Nat) (hf : ∀ a, (f a).length = n) (l : List α) (i : Nat) (a : α) (hi : i < l.length) :
    (l.set i a).flatMap f = (l.flatMap f).take (i * n) ++ (f a ++ (l.flatMap f).drop (i * n + n)) := by
  induction l generalizing i with
  | nil => simp at hi
  | cons b l ih =>
    cases i with
    | zero =>
      simp only [List.set_cons_zero, List.flatMap_cons, Nat.zero_mul, List.take_zero, List.nil_append, Nat.zero_add]
      congr 1
      rw [List.drop_append_of_le_length (by rw [hf]; omega), List.drop_of_length_le (by rw [hf]; omega), List.nil_append]
    | succ i =>
      simp only [List.set_cons_succ, List.flatMap_cons]
      rw [ih i (by simp at hi; omega)]
      have e : (i + 1) * n = n + i * n := by rw [Nat.add_mul]; omega
      have h1 : (f b ++ l.flatMap f).take (n + i * n) = f b ++ (l.flatMap f).take (i * n) := by
        rw [List.take_append, List.take_of_length_le (by rw [hf]; omega), hf, show n + i * n - n = i * n by omega]
      have h2 : (f b ++ l.flatMap f).drop (n + i * n + n) = (l.flatMap f).drop (i * n + n) := by
        rw [show n + i * n + n = n + (i * n + n) by omega, List.drop_append, List.drop_of_length_le (by rw [hf]; omega), hf, show n + (i * n + n) - n = i * n + n by omega, List.nil_append]
      rw [e, h1, h2, List.append_assoc]
theorem PS_set {l : List Srt} {i : Nat} (hi : i < l.length) (s : Srt) : ((PS l).setIfInBounds (i * 2) (.int .i64 s.kind)).setIfInBounds (i * 2 + 1) (.int .i64 s.at_) = PS (l.set i s) := by
  have hl : (l.flatMap srtCells).length = l.length * 2 := flat_len srtCells 2 srtCells_len l
  apply Array.ext'
  unfold PS
  rw [Array.toList_setIfInBounds, Array.toList_setIfInBounds, flat_set srtCells 2 srtCells_len l i s hi]
  apply List.ext_getElem?
  intro k
  rw [List.getElem?_set, List.getElem?_set]
  simp only [List.length_set, hl]
  rcases Nat.lt_trichotomy k (i * 2) with h | h | h
  · rw [if_neg (by omega), if_neg (by omega), List.getElem?_append_left (by rw [List.length_take, hl]; omega), List.getElem?_take, if_pos h]
  · subst h
    rw [if_neg (by omega), if_pos rfl, if_pos (by omega), List.getElem?_append_right (by rw [List.length_take, hl]; omega), List.length_take, hl, show i * 2 - min (i * 2) (l.length * 2) = 0 by omega]
    rfl
  · by_cases h1 : k = i * 2 + 1
    · subst h1
      rw [if_pos rfl, if_pos (by omega), List.getElem?_append_right (by rw [List.length_take, hl]; omega), List.length_take, hl, show i * 2 + 1 - min (i * 2) (l.length * 2) = 1 by omega]
      rfl
    · rw [if_neg (by omega), if_neg (by omega), List.getElem?_append_right (by rw [List.length_take, hl]; omega), List.length_take, hl, List.getElem?_append_right (by rw [srtCells_len]; omega), srtCells_len, List.getElem?_drop]
      congr 1
      omega
theorem Srt.pair_inj {a b : Srt} (h1 : a.kind = b.kind) (h2 : a.at_ = b.at_) : a = b := by
  cases a <;> cases b <;> simp_all [Srt.kind, Srt.at_] <;> omega
theorem Srt.num_inj {a b : Srt} (h : a.num = b.num) : a = b := by
  cases a <;> cases b <;> simp_all [Srt.num] <;> omega
def srtV (s : Srt) : Value := .agg #[.int .i64 s.kind, .int .i64 s.at_]
/-- the comparison of two sorts -/
theorem srt_eq (d : Nat) (x y : Srt) (w : World) : (Op.equalIn (d + 2) 76 (srtV x) (srtV y)).run Try.prog w = .ok (decide (x = y)) w := by
  have h1 : (Op.equalIn (d + 2) 76 (srtV x) (srtV y)).run Try.prog w = .ok ((x.kind == y.kind) && (x.at_ == y.at_)) w := by
    unfold srtV
    rw [run_equalIn_struct w (d + 1) 76 _ _ (by kernel_rfl) (by kernel_rfl)]
    have hu := Try.underlying76
    have hi := Try.underlying3
    cases h : (x.kind == y.kind) <;> cases h2 : (x.at_ == y.at_) <;> simp [Program.fieldsOf, hu, Op.eqFields, part, isAgg, run_underlying hi, run_equalIn_int w d _ _ _ _ _ hi, h, h2]
  have h2 : ((x.kind == y.kind) && (x.at_ == y.at_)) = decide (x = y) := by
    rw [Bool.eq_iff_iff, Bool.and_eq_true, decide_eq_true_eq, beq_iff_eq, beq_iff_eq]
    exact ⟨fun ⟨a, b⟩ => Srt.pair_inj a b, fun e => by subst e; exact ⟨rfl, rfl⟩⟩
  rw [← h2]
  exact h1
theorem infoPS : (Try.prog.info? 78).map (·.size) = some 16 := by kernel_rfl
theorem ldP {ops : Array Oper} {rest : List Oper} {op : Oper} {a : Act} {w : World} {Q : Exit → Act → World → Prop} {t : TypeId} {g : Nat} {x : Operand} {l : List Srt} (hgd : op.guard = none) (ho : op.op = .load 78 x)
    (hx : a.eval x = .pointer (some ⟨g, 0, none⟩)) (hb : Blk w g t (PS l)) (hl : l.length = 8)
    (h : wpList Try.prog ops Q rest (a.put op.dst (.agg (PS l))) w) : wpList Try.prog ops Q (op :: rest) a w :=
  wpList_ldB hgd ho hx hb Try.underlying78 (by rw [PS_size hl]; exact infoPS) h
theorem stP {ops : Array Oper} {rest : List Oper} {op : Oper} {a : Act} {w : World} {Q : Exit → Act → World → Prop} {t : TypeId} {g : Nat} {x y : Operand} {l : List Srt} {old : Array Value} (hgd : op.guard = none) (ho : op.op = .store 78 x y)
    (hx : a.eval x = .pointer (some ⟨g, 0, none⟩)) (hy : a.eval y = .agg (PS l)) (hb : Blk w g t old) (hz : old.size = 16) (hl : l.length = 8)
    (h : wpList Try.prog ops Q rest (a.put op.dst undef) (w.setRow g (PS l))) : wpList Try.prog ops Q (op :: rest) a w :=
  wpList_stB hgd ho hx hy hb (by rw [PS_size hl, hz]) (by rw [PS_size hl]; exact infoPS) (PS_one l) h
theorem lvP {w : World} {g : Nat} {t : TypeId} {l : List Srt} (hb : Blk w g t (PS l)) (hl : l.length = 8) : (loadVar 78 ⟨g, 0, none⟩).run Try.prog w = .ok (.agg (PS l)) w :=
  run_loadVar_row w g t 78 (PS l) (0, 0) _ hb Try.underlying78 rfl (by rw [PS_size hl]; exact infoPS)
theorem infoIS : (Try.prog.info? 86).map (·.size) = some 8 := by kernel_rfl
theorem ldI {ops : Array Oper} {rest : List Oper} {op : Oper} {a : Act} {w : World} {Q : Exit → Act → World → Prop} {t : TypeId} {g : Nat} {x : Operand} {l : List Int} (hgd : op.guard = none) (ho : op.op = .load 86 x)
    (hx : a.eval x = .pointer (some ⟨g, 0, none⟩)) (hb : Blk w g t (IS l)) (hl : l.length = 8)
    (h : wpList Try.prog ops Q rest (a.put op.dst (.agg (IS l))) w) : wpList Try.prog ops Q (op :: rest) a w :=
  wpList_ldB hgd ho hx hb Try.underlying86 (by rw [IS_size hl]; exact infoIS) h
theorem stI {ops : Array Oper} {rest : List Oper} {op : Oper} {a : Act} {w : World} {Q : Exit → Act → World → Prop} {t : TypeId} {g : Nat} {x y : Operand} {l : List Int} {old : Array Value} (hgd : op.guard = none) (ho : op.op = .store 86 x y)
    (hx : a.eval x = .pointer (some ⟨g, 0, none⟩)) (hy : a.eval y = .agg (IS l)) (hb : Blk w g t old) (hz : old.size = 8) (hl : l.length = 8)
    (h : wpList Try.prog ops Q rest (a.put op.dst undef) (w.setRow g (IS l))) : wpList Try.prog ops Q (op :: rest) a w :=
  wpList_stB hgd ho hx hy hb (by rw [IS_size hl, hz]) (by rw [IS_size hl]; exact infoIS) (IS_one l) h
theorem lvI {w : World} {g : Nat} {t : TypeId} {l : List Int} (hb : Blk w g t (IS l)) (hl : l.length = 8) : (loadVar 86 ⟨g, 0, none⟩).run Try.prog w = .ok (.agg (IS l)) w :=
  run_loadVar_row w g t 86 (IS l) (0, 0) _ hb Try.underlying86 rfl (by rw [IS_size hl]; exact infoIS)
end Go.Proofs.Ytpmdgmgcbminaaa

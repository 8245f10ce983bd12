/- An instruction and its cells; what a managed function reads as. -/
import Derived.Test.YtnnchinpmnpfiaaDoorOpen
import Derived.Test.YtnnchinpmnpfiaaDoorNum
import Derived.Test.YtnnchinpmnpfiaaDoorLag
import Derived.Test.YtnnchinpmnpfiaaDoorApp
import Derived.WalkSpells
import Derived.BigQuiet
import Derived.Deep.QuietTactic
import Derived.Deep.CutBlock
import Derived.Deep.RegionHeld3
namespace Go.Proofs.YtnnchinpmnpfiaaDoor
open Go.ChangeShapes Go.WideShapes Go.RowKit Words

structure NI where
  op : Int
  a : Int
  b : Int
  c : Int
  k : BitVec 64
deriving DecidableEq
def insCells (x : NI) : List Value := [.int .i64 x.op, .int .i64 x.a, .int .i64 x.b, .int .i64 x.c, .int .u64 (U x.k)]
abbrev insV (x : NI) : Value := .agg #[.int .i64 x.op, .int .i64 x.a, .int .i64 x.b, .int .i64 x.c, .int .u64 (U x.k)]
abbrev codeV (g : Int) (A : Option Addr) (n c : Nat) : Value := .agg #[.int .i64 g, .slice A n c]
theorem insCells_len (x : NI) : (insCells x).length = 5 := rfl
theorem insCells_one (l : List NI) : ∀ u ∈ l.flatMap insCells, u.oneCell' = true := by
  intro u hu
  rw [List.mem_flatMap] at hu
  obtain ⟨x, _, hx⟩ := hu
  simp only [insCells, List.mem_cons, List.not_mem_nil, or_false] at hx
  rcases hx with rfl | rfl | rfl | rfl | rfl <;> rfl
theorem ret_nb {x y : Bool} (h : x = y) : Ending.returned (.bool x) = .returned (.bool y) := by rw [h]
theorem tyMIns : SlTy Tryd.prog 47 53 5 40 := SlTy.mk' (z := .agg #[.int .i64 0, .int .i64 0, .int .i64 0, .int .i64 0, .int .u64 0]) Tryd.underlying47 (by kernel_rfl) rfl (by omega)
theorem tyQIns : SlTy Tryd.prog 42 55 5 40 := SlTy.mk' (z := .agg #[.int .i64 0, .int .i64 0, .int .i64 0, .int .i64 0, .int .u64 0]) Tryd.underlying42 (by kernel_rfl) rfl (by omega)
theorem tyInts : SlTy Tryd.prog 24 3 1 8 := SlTy.mk' (z := .int .i64 0) Tryd.underlying24 (by kernel_rfl) rfl (by omega)
def I64 (x : Int) : Prop := -9223372036854775808 ≤ x ∧ x ≤ 9223372036854775807
def NI.ok64 (x : NI) : Prop := I64 x.op ∧ I64 x.a ∧ I64 x.b ∧ I64 x.c
abbrev fnV (p : Int) (A : Option Addr) (n c : Nat) (r : Int) (B : Option Addr) (m d : Nat) : Value := .agg #[.int .i64 p, .slice A n c, .int .i64 r, .slice B m d]

section
variable {H : Type} {enc : TypeId × Value → H} {w : World} {base b : Nat} {spare : Nat → Bool} {held : Bool}
theorem cells_qins {n : Nat} {cs : List Value} {y : DataW H × List MemPlace} (h : DataW.trod enc Tryd.prog w base spare held n 55 cs = some y) : ∃ x : NI, cs = insCells x ∧ x.ok64 := by
  obtain ⟨hl, hf⟩ := cells_struct Tryd.underlying55 (by kernel_rfl) (by kernel_rfl) h
  obtain ⟨v0, m0, z0, e0, t0⟩ := hf 0 _ rfl
  obtain ⟨v1, m1, z1, e1, t1⟩ := hf 1 _ rfl
  obtain ⟨v2, m2, z2, e2, t2⟩ := hf 2 _ rfl
  obtain ⟨v3, m3, z3, e3, t3⟩ := hf 3 _ rfl
  obtain ⟨v4, m4, z4, e4, t4⟩ := hf 4 _ rfl
  obtain ⟨a0, ha0, r0⟩ := cells_i64 Tryd.underlying3 t0
  obtain ⟨a1, ha1, r1⟩ := cells_i64 Tryd.underlying3 t1
  obtain ⟨a2, ha2, r2⟩ := cells_i64 Tryd.underlying3 t2
  obtain ⟨a3, ha3, r3⟩ := cells_i64 Tryd.underlying3 t3
  obtain ⟨x, hx⟩ := cells_word Tryd.underlying51 t4
  simp only [List.cons.injEq, and_true] at ha0 ha1 ha2 ha3 hx
  subst ha0 ha1 ha2 ha3 hx
  exact ⟨⟨a0, a1, a2, a3, x⟩, list5 hl e0 e1 e2 e3 e4, r0, r1, r2, r3⟩
/-- what the cells of a function hold -/
theorem cells_fn {n : Nat} {cs : List Value} {y : DataW H × List MemPlace} (h : DataW.trod enc Tryd.prog w base spare held n 44 cs = some y) :
    ∃ p A k c r B m d, ∃ locs : List Int, ∃ ins : List NI, cs = [.int .i64 p, .slice A k c, .int .i64 r, .slice B m d] ∧ I64 p ∧ I64 r ∧ Reads w w.heap.size 1 A k c (locs.flatMap intCells) ∧ Reads w w.heap.size 5 B m d (ins.flatMap insCells) ∧ (∀ x ∈ locs, I64 x) ∧ ∀ x ∈ ins, x.ok64 := by
  obtain ⟨hl, hf⟩ := cells_struct Tryd.underlying44 (by kernel_rfl) (by kernel_rfl) h
  obtain ⟨v0, m0, z0, e0, t0⟩ := hf 0 _ rfl
  obtain ⟨v1, m1, z1, e1, t1⟩ := hf 1 _ rfl
  obtain ⟨v2, m2, z2, e2, t2⟩ := hf 2 _ rfl
  obtain ⟨v3, m3, z3, e3, t3⟩ := hf 3 _ rfl
  obtain ⟨p, hp, rp⟩ := cells_i64 Tryd.underlying3 t0
  obtain ⟨r, hr, rr⟩ := cells_i64 Tryd.underlying3 t2
  obtain ⟨A, k, c, locs, he1, h1, g1⟩ := cells_seq (s := 1) intCells I64 Tryd.underlying24 (by kernel_rfl) (by omega) (fun n cs' y hy => cells_i64 Tryd.underlying3 hy) (fun _ => rfl) t1
  obtain ⟨B, m, d, ins, he3, h3, g3⟩ := cells_seq insCells NI.ok64 Tryd.underlying42 (by kernel_rfl) (by omega) (fun n cs' y hy => cells_qins hy) insCells_len t3
  simp only [List.cons.injEq, and_true] at hp hr he1 he3
  subst hp hr he1 he3
  exact ⟨p, A, k, c, r, B, m, d, locs, ins, list4 hl e0 e1 e2 e3, rp, rr, h1, h3, g1, g3⟩
set_option maxRecDepth 100000 in
theorem open_fn {v : Value} {d : DataW H} {ps : List MemPlace} (hv : Value.okWide Tryd.prog w .any b 44 v) (h : DataW.Trod enc Tryd.prog w base spare held 44 v d ps) :
    ∃ p A k c r B m d, ∃ locs : List Int, ∃ ins : List NI, v = fnV p A k c r B m d ∧ I64 p ∧ I64 r ∧ Reads w w.heap.size 1 A k c (locs.flatMap intCells) ∧ Reads w w.heap.size 5 B m d (ins.flatMap insCells) ∧ (∀ x ∈ locs, I64 x) ∧ ∀ x ∈ ins, x.ok64 := by
  obtain ⟨cs, rfl, _⟩ := okWide_struct Tryd.underlying44 hv
  obtain ⟨fuel, hf'⟩ := h
  obtain ⟨p, A, k, c, r, B, m, d, locs, ins, he, h1⟩ := cells_fn hf'
  exact ⟨p, A, k, c, r, B, m, d, locs, ins, by rw [← Array.toArray_toList (xs := cs), show cs.toList = _ from he], h1⟩
end
set_option maxHeartbeats 1000000 in
theorem ins_any (x : NI) (w : World) : Calls Tryd.prog 14 #[insV x] w fun e w' => e = .returned (insV x) ∧ Below w.heap.size w w' := by
  obtain ⟨op, a, b, c, k⟩ := x
  have hB : Below w.heap.size w ((w.alloc (.cells #[.int .i64 op, .int .i64 a, .int .i64 b, .int .i64 c, .int .u64 (U k)] 55)).alloc (.cells #[.int .i64 op, .int .i64 a, .int .i64 b, .int .i64 c, .int .u64 (U k)] 53)) := keep_alloc (keep_alloc (Below.refl _ _) _) _
  go_enter Tryd.func14, Tryd.ntmps14
  go_wp2_with fail
  have X := Blk.newAt (w.alloc (.cells #[.int .i64 op, .int .i64 a, .int .i64 b, .int .i64 c, .int .u64 (U k)] 55)) #[.int .i64 op, .int .i64 a, .int .i64 b, .int .i64 c, .int .u64 (U k)] 53 (w.heap.size + 1) (by simp)
  have x0 := X.cell 0 _ rfl
  have x1 := X.cell 1 _ rfl
  have x2 := X.cell 2 _ rfl
  have x3 := X.cell 3 _ rfl
  have x4 := X.cell 4 _ rfl
  refine bodyPost_ret (v := insV ⟨op, a, b, c, k⟩) (by simp [results, Tryd.results14, go_sem, x0, x1, x2, x3, x4]) rfl ?_
  exact ⟨rfl, hB⟩
end Go.Proofs.YtnnchinpmnpfiaaDoor

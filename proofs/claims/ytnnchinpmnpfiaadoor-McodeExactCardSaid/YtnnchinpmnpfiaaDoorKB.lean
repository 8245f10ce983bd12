/- An instruction and its cells; what a managed function reads as. -/
import Derived.Test.YtnnchinpmnpfiaaDoorKA
import Derived.WalkSpells
import Derived.BigQuiet
import Derived.Deep.QuietTactic
import Derived.Deep.CutBlock
import Derived.Deep.RegionHeld3
import Derived.WalkKit
namespace Go.Proofs.YtnnchinpmnpfiaaDoor
open Go.ChangeShapes Go.WideShapes Go.RowKit Words

structure NI where
  op : Int
  a : Int
  b : Int
  c : Int
  k : BitVec 64
deriving DecidableEq
def insCells (x : NI) : List Value := [.int .i64 x.op, .int .i64 x.a, .int .i64 x.b, .int .i64 x.c, .int .u64 (U x.k)]
abbrev insV (x : NI) : Value := .agg #[.int .i64 x.op, .int .i64 x.a, .int .i64 x.b, .int .i64 x.c, .int .u64 (U x.k)]
abbrev codeV (g : Int) (A : Option Addr) (n c : Nat) : Value := .agg #[.int .i64 g, .slice A n c]
theorem insCells_len (x : NI) : (insCells x).length = 5 := rfl
theorem insCells_one (l : List NI) : ∀ u ∈ l.flatMap insCells, u.oneCell' = true := by
  intro u hu
  rw [List.mem_flatMap] at hu
  obtain ⟨x, _, hx⟩ := hu
  simp only [insCells, List.mem_cons, List.not_mem_nil, or_false] at hx
  rcases hx with rfl | rfl | rfl | rfl | rfl <;> rfl
theorem ret_nb {x y : Bool} (h : x = y) : Ending.returned (.bool x) = .returned (.bool y) := by rw [h]
theorem tyMIns : SlTy Tryd.prog 47 53 5 40 := SlTy.mk' (z := .agg #[.int .i64 0, .int .i64 0, .int .i64 0, .int .i64 0, .int .u64 0]) Tryd.underlying47 (by kernel_rfl) rfl (by omega)
theorem tyQIns : SlTy Tryd.prog 42 55 5 40 := SlTy.mk' (z := .agg #[.int .i64 0, .int .i64 0, .int .i64 0, .int .i64 0, .int .u64 0]) Tryd.underlying42 (by kernel_rfl) rfl (by omega)
theorem tyInts : SlTy Tryd.prog 24 3 1 8 := SlTy.mk' (z := .int .i64 0) Tryd.underlying24 (by kernel_rfl) rfl (by omega)
def I64 (x : Int) : Prop := -9223372036854775808 ≤ x ∧ x ≤ 9223372036854775807
def NI.ok64 (x : NI) : Prop := I64 x.op ∧ I64 x.a ∧ I64 x.b ∧ I64 x.c
abbrev fnV (p : Int) (A : Option Addr) (n c : Nat) (r : Int) (B : Option Addr) (m d : Nat) : Value := .agg #[.int .i64 p, .slice A n c, .int .i64 r, .slice B m d]

section
variable {H : Type} {enc : TypeId × Value → H} {w : World} {base b : Nat} {spare : Nat → Bool} {held : Bool}
theorem cells_qins {n : Nat} {cs : List Value} {y : DataW H × List MemPlace} (h : DataW.trod enc Tryd.prog w base spare held n 55 cs = some y) : ∃ x : NI, cs = insCells x ∧ x.ok64 := by
  obtain ⟨hl, hf⟩ := cells_struct Tryd.underlying55 (by kernel_rfl) (by kernel_rfl) h
  obtain ⟨v0, m0, z0, e0, t0⟩ := hf 0 _ rfl
  obtain ⟨v1, m1, z1, e1, t1⟩ := hf 1 _ rfl
  obtain ⟨v2, m2, z2, e2, t2⟩ := hf 2 _ rfl
  obtain ⟨v3, m3, z3, e3, t3⟩ := hf 3 _ rfl
  obtain ⟨v4, m4, z4, e4, t4⟩ := hf 4 _ rfl
  obtain ⟨a0, ha0, r0⟩ := cells_i64 Tryd.underlying3 t0
  obtain ⟨a1, ha1, r1⟩ := cells_i64 Tryd.underlying3 t1
  obtain ⟨a2, ha2, r2⟩ := cells_i64 Tryd.underlying3 t2
  obtain ⟨a3, ha3, r3⟩ := cells_i64 Tryd.underlying3 t3
  obtain ⟨x, hx⟩ := cells_word Tryd.underlying51 t4
  simp only [List.cons.injEq, and_true] at ha0 ha1 ha2 ha3 hx
  subst ha0 ha1 ha2 ha3 hx
  exact ⟨⟨a0, a1, a2, a3, x⟩, list5 hl e0 e1 e2 e3 e4, r0, r1, r2, r3⟩
/-- what the cells of a function hold -/
theorem cells_fn {n : Nat} {cs : List Value} {y : DataW H × List MemPlace} (h : DataW.trod enc Tryd.prog w base spare held n 44 cs = some y) :
    ∃ p A k c r B m d, ∃ locs : List Int, ∃ ins : List NI, cs = [.int .i64 p, .slice A k c, .int .i64 r, .slice B m d] ∧ I64 p ∧ I64 r ∧ Reads w w.heap.size 1 A k c (locs.flatMap intCells) ∧ Reads w w.heap.size 5 B m d (ins.flatMap insCells) ∧ (∀ x ∈ locs, I64 x) ∧ ∀ x ∈ ins, x.ok64 := by
  obtain ⟨hl, hf⟩ := cells_struct Tryd.underlying44 (by kernel_rfl) (by kernel_rfl) h
  obtain ⟨v0, m0, z0, e0, t0⟩ := hf 0 _ rfl
  obtain ⟨v1, m1, z1, e1, t1⟩ := hf 1 _ rfl
  obtain ⟨v2, m2, z2, e2, t2⟩ := hf 2 _ rfl
  obtain ⟨v3, m3, z3, e3, t3⟩ := hf 3 _ rfl
  obtain ⟨p, hp, rp⟩ := cells_i64 Tryd.underlying3 t0
  obtain ⟨r, hr, rr⟩ := cells_i64 Tryd.underlying3 t2
  obtain ⟨A, k, c, locs, he1, h1, g1⟩ := cells_seq (s := 1) intCells I64 Tryd.underlying24 (by kernel_rfl) (by omega) (fun n cs' y hy => cells_i64 Tryd.underlying3 hy) (fun _ => rfl) t1
  obtain ⟨B, m, d, ins, he3, h3, g3⟩ := cells_seq insCells NI.ok64 Tryd.underlying42 (by kernel_rfl) (by omega) (fun n cs' y hy => cells_qins hy) insCells_len t3
  simp only [List.cons.injEq, and_true] at hp hr he1 he3
  subst hp hr he1 he3
  exact ⟨p, A, k, c, r, B, m, d, locs, ins, list4 hl e0 e1 e2 e3, rp, rr, h1, h3, g1, g3⟩
set_option maxRecDepth 100000 in
theorem open_fn {v : Value} {d : DataW H} {ps : List MemPlace} (hv : Value.okWide Tryd.prog w .any b 44 v) (h : DataW.Trod enc Tryd.prog w base spare held 44 v d ps) :
    ∃ p A k c r B m d, ∃ locs : List Int, ∃ ins : List NI, v = fnV p A k c r B m d ∧ I64 p ∧ I64 r ∧ Reads w w.heap.size 1 A k c (locs.flatMap intCells) ∧ Reads w w.heap.size 5 B m d (ins.flatMap insCells) ∧ (∀ x ∈ locs, I64 x) ∧ ∀ x ∈ ins, x.ok64 := by
  obtain ⟨cs, rfl, _⟩ := okWide_struct Tryd.underlying44 hv
  obtain ⟨fuel, hf'⟩ := h
  obtain ⟨p, A, k, c, r, B, m, d, locs, ins, he, h1⟩ := cells_fn hf'
  exact ⟨p, A, k, c, r, B, m, d, locs, ins, by rw [← Array.toArray_toList (xs := cs), show cs.toList = _ from he], h1⟩
end
set_option maxHeartbeats 1000000 in
theorem ins_any (x : NI) (w : World) : Calls Tryd.prog 14 #[insV x] w fun e w' => e = .returned (insV x) ∧ Below w.heap.size w w' := by
  obtain ⟨op, a, b, c, k⟩ := x
  have hB : Below w.heap.size w ((w.alloc (.cells #[.int .i64 op, .int .i64 a, .int .i64 b, .int .i64 c, .int .u64 (U k)] 55)).alloc (.cells #[.int .i64 op, .int .i64 a, .int .i64 b, .int .i64 c, .int .u64 (U k)] 53)) := keep_alloc (keep_alloc (Below.refl _ _) _) _
  go_enter Tryd.func14, Tryd.ntmps14
  go_wp2_with fail
  have X := Blk.newAt (w.alloc (.cells #[.int .i64 op, .int .i64 a, .int .i64 b, .int .i64 c, .int .u64 (U k)] 55)) #[.int .i64 op, .int .i64 a, .int .i64 b, .int .i64 c, .int .u64 (U k)] 53 (w.heap.size + 1) (by simp)
  have x0 := X.cell 0 _ rfl
  have x1 := X.cell 1 _ rfl
  have x2 := X.cell 2 _ rfl
  have x3 := X.cell 3 _ rfl
  have x4 := X.cell 4 _ rfl
  refine bodyPost_ret (v := insV ⟨op, a, b, c, k⟩) (by simp [results, Tryd.results14, go_sem, x0, x1, x2, x3, x4]) rfl ?_
  exact ⟨rfl, hB⟩
end Go.Proofs.YtnnchinpmnpfiaaDoor
/- Lists of numbers: are two the same? The root map and the ranks of the reference. -/
namespace Go.Proofs.YtnnchinpmnpfiaaDoor
open Go.ChangeShapes Go.WideShapes Go.RowKit Words

/-- numbers of the call's own come back -/
def RetInts (w : World) (l : List Int) (e : Ending) (w' : World) : Prop :=
  ∃ A c, e = .returned (.slice A l.length c) ∧ Reads w' w'.heap.size 1 A l.length c (l.flatMap intCells) ∧ Below w.heap.size w w'
/-- the places of the references from place i on -/
def refsFrom : Nat → List Int → List Int
  | _, [] => []
  | i, k :: r => if k = 2 then (i : Int) :: refsFrom (i + 1) r else refsFrom (i + 1) r
/-- how many references are there? -/
def rankL (l : List Int) : Nat := (l.filter (fun k => decide (k = 2))).length
theorem refsFrom_len : ∀ (l : List Int) (i : Nat), (refsFrom i l).length ≤ l.length
  | [], _ => Nat.le_refl _
  | k :: r, i => by
    unfold refsFrom
    have := refsFrom_len r (i + 1)
    split
    · simp; exact this
    · simp; omega
theorem refsFrom_app : ∀ (l : List Int) (i : Nat) (k : Int), refsFrom i (l ++ [k]) = refsFrom i l ++ (if k = 2 then [((i + l.length : Nat) : Int)] else [])
  | [], i, k => by simp [refsFrom]
  | x :: l, i, k => by
    have := refsFrom_app l (i + 1) k
    simp only [List.cons_append, refsFrom, this, List.length_cons, show i + (l.length + 1) = i + 1 + l.length by omega]
    split <;> simp
theorem take_nx' {α : Type} {l : List α} {k : Nat} {a : α} (h : l[k]? = some a) : l.take (k + 1) = l.take k ++ [a] := by
  rw [List.take_add_one, h]; rfl
theorem refs_snoc {l : List Int} {i : Nat} {k : Int} (h : l[i]? = some k) : refsFrom 0 (l.take (i + 1)) = refsFrom 0 (l.take i) ++ (if k = 2 then [(i : Int)] else []) := by
  rw [take_nx' h, refsFrom_app, List.length_take, Nat.zero_add]
  have := (List.getElem?_eq_some_iff.1 h).1
  rw [show min i l.length = i by omega]
theorem rank_snoc {l : List Int} {i : Nat} {k : Int} (h : l[i]? = some k) : rankL (l.take (i + 1)) = rankL (l.take i) + (if k = 2 then 1 else 0) := by
  unfold rankL
  rw [take_nx' h, List.filter_append, List.length_append]
  congr 1
  by_cases e : k = 2
  · simp [e]
  · simp [e]
theorem rank_le (l : List Int) : rankL l ≤ l.length := List.length_filter_le _ _

set_option maxHeartbeats 1000000 in
theorem rrefs_any (p : Int) (A : Option Addr) (n c : Nat) (r : Int) (B : Option Addr) (m d : Nat) (l : List Int) (w : World) (h : Reads w w.heap.size 1 A n c (l.flatMap intCells)) (hn : n ≤ 1000000) :
    Calls Tryd.prog 17 #[fnV p A n c r B m d] w (RetInts w (refsFrom 0 l)) := by
  have hlen := h.length (f := intCells) (fun _ => rfl) (by omega)
  have hB0 : Below w.heap.size w (w.alloc (.cells #[.int .i64 p, .slice A n c, .int .i64 r, .slice B m d] 44)) := keep_alloc (Below.refl _ _) _
  have X0 := Blk.new w #[.int .i64 p, .slice A n c, .int .i64 r, .slice B m d] 44
  have h1 := h.belowU hB0
  have HL := Lib.hid hlen
  clear hlen h
  go_enter Tryd.func17, Tryd.ntmps17
  go_wp2_with fail
  obtain ⟨w1, hw1⟩ : ∃ w1, w.alloc (.cells #[.int .i64 p, .slice A n c, .int .i64 r, .slice B m d] 44) = w1 := ⟨_, rfl⟩
  obtain ⟨g, hg⟩ : ∃ g, w.heap.size = g := ⟨_, rfl⟩
  rw [hw1] at hB0 X0 h1 ⊢
  rw [hg] at X0 hB0 ⊢
  have HG := Lib.hid hg
  clear hw1 hg
  go_loopw [3, 4] (fun s x wq => ∃ (k q : Nat) (A' : Option Addr) (c' : Nat), k ≤ n ∧ q ≤ k ∧ x = .int .i64 k ∧ s = .slice A' q c' ∧ wq.ownsRow w1.heap.size 3 1 (.slice A' q c') q ((refsFrom 0 (l.take k)).flatMap intCells) ∧ Below w1.heap.size w1 wq) (fun _ x _ => n - (intOf x).toNat)
  case atStart => exact ⟨0, 0, none, 0, Nat.zero_le _, Nat.le_refl _, rfl, rfl, World.ownsRow_nil _ _ _ _, Below.refl _ _⟩
  case round =>
    obtain ⟨k, q, A', c', hk, hqk, rfl, rfl, hown, hb⟩ := hrel
    have q1 : wr.cell? ⟨g, 1, none⟩ = some (.slice A n c) := (X0.below hb).cell 1 _ rfl
    by_cases hlt : k < n
    · obtain ⟨b, off, x, rfl, hbb, hx, hc⟩ := (h1.belowU hb).elem (f := intCells) (fun _ => rfl) (by omega) hlt
      have d0 := hc 0 _ rfl
      rw [Nat.mul_one, Nat.add_zero] at d0
      have hk0 : (0 : Int) ≤ (k : Int) := by omega
      have hk1 : (k : Int) < (n : Int) := by omega
      have hd : decide ((k : Int) < (n : Int)) = true := decide_eq_true hk1
      have hd2 : decide (k < n) = true := decide_eq_true hlt
      have hw : IntKind.i64.wrap ((k : Int) + 1) = (k : Int) + 1 := IntWalk.i64_in _ (by omega)
      have HS := Lib.hid (refs_snoc hx)
      have q1' : q + 1 ≤ maxLen := by unfold maxLen; omega
      have q2' : (q + 1) * 8 ≤ 140737488355328 := by omega
      clear hx hc
      by_cases e2 : x = 2
      · subst e2
        have hfr := Reads.freshAs wr #[.int .i64 k] 3 1 1 (([(k : Int)] : List Int).flatMap intCells) rfl rfl (by decide)
        go_wp2_with (at_builtin; go_loud (refine wpList_app rfl _ _ _ rfl tyInts rfl (hown.alloc _) rfl hfr (by simp [Value.oneCell', intCells]) q1' q2' (by simp; have := hb.size; omega) ?_; intro v' w6 hown' hb'; obtain ⟨A2, c2, rfl, -⟩ := Reads.own hown'))
        go_roundw
        case rel => exact ⟨k + 1, q + 1, A2, c2, by omega, by omega, by go_num, rfl, by rw [HS.out, if_pos rfl, List.flatMap_append]; exact hown', (hb.alloc hb.size _).trans hb'⟩
        case measure => simp [intOf]; omega
      · have t2 : (x == 2) = false := beq_false_of_ne e2
        go_wp2_with fail
        go_roundw
        case rel => exact ⟨k + 1, q, A', c', by omega, by omega, by go_num, rfl, by rw [HS.out, if_neg e2, List.append_nil]; exact hown, hb⟩
        case measure => simp [intOf]; omega
    · have hkn : k = n := by omega
      subst hkn
      have hd : decide ((k : Int) < (k : Int)) = false := by simp
      have hd2 : decide (k < k) = false := by simp
      rw [List.take_of_length_le (by rw [HL.out]; omega)] at hown
      obtain ⟨A3, c3, e3, hr⟩ := Reads.own hown
      injection e3 with x1 x2 x3
      subst x1 x3
      have hqq := hr.length (f := intCells) (fun _ => rfl) (by omega)
      have HR := Lib.hid hr
      have HQ := Lib.hid hqq
      clear hown hr hqq
      go_wp2_with fail
      go_ret
      refine ⟨A', c', ?_, ?_, ?_⟩
      · rw [HQ.out]; rfl
      · rw [HQ.out]; exact HR.out
      · rw [HG.out]; exact hB0.trans (hb.mono (by have := X0.lt; omega))
set_option maxHeartbeats 1000000 in
theorem refs_any (p : Int) (A : Option Addr) (n c : Nat) (r : Int) (B : Option Addr) (m d : Nat) (l : List Int) (w : World) (h : Reads w w.heap.size 1 A n c (l.flatMap intCells)) (hn : n ≤ 1000000) :
    Calls Tryd.prog 15 #[fnV p A n c r B m d] w (RetInts w (refsFrom 0 l)) := by
  have hlen := h.length (f := intCells) (fun _ => rfl) (by omega)
  have hB0 : Below w.heap.size w (w.alloc (.cells #[.int .i64 p, .slice A n c, .int .i64 r, .slice B m d] 49)) := keep_alloc (Below.refl _ _) _
  have X0 := Blk.new w #[.int .i64 p, .slice A n c, .int .i64 r, .slice B m d] 49
  have h1 := h.belowU hB0
  have HL := Lib.hid hlen
  clear hlen h
  go_enter Tryd.func15, Tryd.ntmps15
  go_wp2_with fail
  obtain ⟨w1, hw1⟩ : ∃ w1, w.alloc (.cells #[.int .i64 p, .slice A n c, .int .i64 r, .slice B m d] 49) = w1 := ⟨_, rfl⟩
  obtain ⟨g, hg⟩ : ∃ g, w.heap.size = g := ⟨_, rfl⟩
  rw [hw1] at hB0 X0 h1 ⊢
  rw [hg] at X0 hB0 ⊢
  have HG := Lib.hid hg
  clear hw1 hg
  go_loopw [3, 9] (fun s x wq => ∃ (k q : Nat) (A' : Option Addr) (c' : Nat), k ≤ n ∧ q ≤ k ∧ x = .int .i64 k ∧ s = .slice A' q c' ∧ wq.ownsRow w1.heap.size 3 1 (.slice A' q c') q ((refsFrom 0 (l.take k)).flatMap intCells) ∧ Below w1.heap.size w1 wq) (fun _ x _ => n - (intOf x).toNat)
  case atStart => exact ⟨0, 0, none, 0, Nat.zero_le _, Nat.le_refl _, rfl, rfl, World.ownsRow_nil _ _ _ _, Below.refl _ _⟩
  case round =>
    obtain ⟨k, q, A', c', hk, hqk, rfl, rfl, hown, hb⟩ := hrel
    have q1 : wr.cell? ⟨g, 1, none⟩ = some (.slice A n c) := (X0.below hb).cell 1 _ rfl
    by_cases hlt : k < n
    · obtain ⟨b, off, x, rfl, hbb, hx, hc⟩ := (h1.belowU hb).elem (f := intCells) (fun _ => rfl) (by omega) hlt
      have d0 := hc 0 _ rfl
      rw [Nat.mul_one, Nat.add_zero] at d0
      have hk0 : (0 : Int) ≤ (k : Int) := by omega
      have hk1 : (k : Int) < (n : Int) := by omega
      have hd : decide ((k : Int) < (n : Int)) = true := decide_eq_true hk1
      have hd2 : decide (k < n) = true := decide_eq_true hlt
      have hw : IntKind.i64.wrap ((k : Int) + 1) = (k : Int) + 1 := IntWalk.i64_in _ (by omega)
      have HS := Lib.hid (refs_snoc hx)
      have q1' : q + 1 ≤ maxLen := by unfold maxLen; omega
      have q2' : (q + 1) * 8 ≤ 140737488355328 := by omega
      clear hx hc
      by_cases e2 : x = 2
      · subst e2
        have hfr := Reads.freshAs wr #[.int .i64 k] 3 1 1 (([(k : Int)] : List Int).flatMap intCells) rfl rfl (by decide)
        go_wp2_with (at_builtin; go_loud (refine wpList_app rfl _ _ _ rfl tyInts rfl (hown.alloc _) rfl hfr (by simp [Value.oneCell', intCells]) q1' q2' (by simp; have := hb.size; omega) ?_; intro v' w6 hown' hb'; obtain ⟨A2, c2, rfl, -⟩ := Reads.own hown'))
        go_roundw
        case rel => exact ⟨k + 1, q + 1, A2, c2, by omega, by omega, by go_num, rfl, by rw [HS.out, if_pos rfl, List.flatMap_append]; exact hown', (hb.alloc hb.size _).trans hb'⟩
        case measure => simp [intOf]; omega
      · have t2 : (x == 2) = false := beq_false_of_ne e2
        go_wp2_with fail
        go_roundw
        case rel => exact ⟨k + 1, q, A', c', by omega, by omega, by go_num, rfl, by rw [HS.out, if_neg e2, List.append_nil]; exact hown, hb⟩
        case measure => simp [intOf]; omega
    · have hkn : k = n := by omega
      subst hkn
      have hd : decide ((k : Int) < (k : Int)) = false := by simp
      have hd2 : decide (k < k) = false := by simp
      rw [List.take_of_length_le (by rw [HL.out]; omega)] at hown
      obtain ⟨A3, c3, e3, hr⟩ := Reads.own hown
      injection e3 with x1 x2 x3
      subst x1 x3
      have hqq := hr.length (f := intCells) (fun _ => rfl) (by omega)
      have HR := Lib.hid hr
      have HQ := Lib.hid hqq
      clear hown hr hqq
      go_wp2_with fail
      go_ret
      refine ⟨A', c', ?_, ?_, ?_⟩
      · rw [HQ.out]; rfl
      · rw [HQ.out]; exact HR.out
      · rw [HG.out]; exact hB0.trans (hb.mono (by have := X0.lt; omega))
set_option maxHeartbeats 1000000 in
theorem rrank_any (p : Int) (A : Option Addr) (n c : Nat) (r : Int) (B : Option Addr) (m d : Nat) (l : List Int) (i : Int) (w : World) (h : Reads w w.heap.size 1 A n c (l.flatMap intCells)) (hn : n ≤ 1000000) :
    Calls Tryd.prog 19 #[fnV p A n c r B m d, .int .i64 i] w fun e w' => e = .returned (.int .i64 (rankL (l.take i.toNat))) ∧ Below w.heap.size w w' := by
  have hlen := h.length (f := intCells) (fun _ => rfl) (by omega)
  have hB0 : Below w.heap.size w (w.alloc (.cells #[.int .i64 p, .slice A n c, .int .i64 r, .slice B m d] 44)) := keep_alloc (Below.refl _ _) _
  have X0 := Blk.new w #[.int .i64 p, .slice A n c, .int .i64 r, .slice B m d] 44
  have h1 := h.belowU hB0
  have HL := Lib.hid hlen
  clear hlen h
  go_enter Tryd.func19, Tryd.ntmps19
  go_wp2_with fail
  have x1 := X0.cell 1 _ rfl
  obtain ⟨w1, hw1⟩ : ∃ w1, w.alloc (.cells #[.int .i64 p, .slice A n c, .int .i64 r, .slice B m d] 44) = w1 := ⟨_, rfl⟩
  obtain ⟨g, hg⟩ : ∃ g, w.heap.size = g := ⟨_, rfl⟩
  rw [hw1] at hB0 X0 h1 x1 ⊢
  rw [hg] at X0 hB0 x1 ⊢
  have HG := Lib.hid hg
  clear hw1 hg
  go_loop [5, 6] (fun s x => ∃ k : Nat, k ≤ n ∧ (k = 0 ∨ (k : Int) ≤ i) ∧ x = .int .i64 k ∧ s = .int .i64 (rankL (l.take k))) (fun _ x => n - (intOf x).toNat)
  case atStart => exact ⟨0, Nat.zero_le _, Or.inl rfl, rfl, rfl⟩
  case round =>
    obtain ⟨k, hk, hki, rfl, rfl⟩ := hrel
    by_cases hlt : (k : Int) < i ∧ k < n
    · obtain ⟨b, off, x, rfl, hbb, hx, hc⟩ := h1.elem (f := intCells) (fun _ => rfl) (by omega) hlt.2
      have d0 := hc 0 _ rfl
      rw [Nat.mul_one, Nat.add_zero] at d0
      have hk0 : (0 : Int) ≤ (k : Int) := by omega
      have hk1 : (k : Int) < (n : Int) := by omega
      have hd : decide ((k : Int) < (n : Int)) = true := decide_eq_true hk1
      have hd2 : decide (k < n) = true := decide_eq_true hlt.2
      have hdi : decide ((k : Int) < i) = true := decide_eq_true hlt.1
      have hw : IntKind.i64.wrap ((k : Int) + 1) = (k : Int) + 1 := IntWalk.i64_in _ (by omega)
      have hrk := rank_le (l.take k)
      rw [List.length_take] at hrk
      have hw2 : IntKind.i64.wrap ((rankL (l.take k) : Int) + 1) = (rankL (l.take k) : Int) + 1 := IntWalk.i64_in _ (by omega)
      have HS := Lib.hid (rank_snoc hx)
      have HLT := Lib.hid hlt
      clear hx hc hrk hlt
      by_cases e2 : x = 2
      · subst e2
        go_wp2_with fail
        go_round
        case rel => exact ⟨k + 1, by omega, Or.inr (by have := HLT.out.1; omega), by go_num, by rw [HS.out, if_pos rfl]; go_num⟩
        case measure => simp [intOf]; omega
      · have t2 : (x == 2) = false := beq_false_of_ne e2
        go_wp2_with fail
        go_round
        case rel => exact ⟨k + 1, by omega, Or.inr (by have := HLT.out.1; omega), by go_num, by rw [HS.out, if_neg e2]; rfl⟩
        case measure => simp [intOf]; omega
    · have hV : rankL (l.take i.toNat) = rankL (l.take k) := by
        have hL := HL.out
        by_cases hin : (k : Int) < i
        · rw [List.take_of_length_le (by omega : l.length ≤ i.toNat), List.take_of_length_le (by omega : l.length ≤ k)]
        · rcases hki with rfl | hki
          · rw [show i.toNat = 0 by omega]
          · rw [show i.toNat = k by omega]
      have HV := Lib.hid hV
      clear hV
      by_cases hin : (k : Int) < i
      · have hdi : decide ((k : Int) < i) = true := decide_eq_true hin
        have hd : decide ((k : Int) < (n : Int)) = false := decide_eq_false (by omega)
        have hd2 : decide (k < n) = false := decide_eq_false (by omega)
        clear hlt
        go_wp2_with fail
        go_ret
        exact ⟨by rw [HV.out]; rfl, by rw [HG.out]; exact hB0⟩
      · have hdi : decide ((k : Int) < i) = false := decide_eq_false hin
        clear hlt
        go_wp2_with fail
        go_ret
        exact ⟨by rw [HV.out]; rfl, by rw [HG.out]; exact hB0⟩
set_option maxHeartbeats 1000000 in
theorem same_any (A : Option Addr) (n c : Nat) (l : List Int) (B : Option Addr) (m d : Nat) (k : List Int) (w : World) (h : Reads w w.heap.size 1 A n c (l.flatMap intCells)) (h' : Reads w w.heap.size 1 B m d (k.flatMap intCells)) (hn : n ≤ 1000000) :
    Calls Tryd.prog 16 #[.slice A n c, .slice B m d] w fun e w' => e = .returned (.bool (decide (l = k))) ∧ Below w.heap.size w w' := by
  have hlen := h.length (f := intCells) (fun _ => rfl) (by omega)
  have hlen' := h'.length (f := intCells) (fun _ => rfl) (by omega)
  by_cases hnm : n = m
  · subst hnm
    have HL := Lib.hid hlen
    have HL' := Lib.hid hlen'
    clear hlen hlen'
    go_enter Tryd.func16, Tryd.ntmps16
    go_wp2_with fail
    go_loopw [5] (fun x wq => ∃ i : Nat, i ≤ n ∧ x = .int .i64 i ∧ l.take i = k.take i ∧ Below w.heap.size w wq) (fun x _ => n - (intOf x).toNat)
    case atStart => exact ⟨0, Nat.zero_le _, rfl, rfl, Below.refl _ _⟩
    case round =>
      obtain ⟨i, hi, rfl, ht, hb⟩ := hrel
      by_cases hlt : i < n
      · obtain ⟨b, off, x, rfl, hbb, hx, hc⟩ := (h.belowU hb).elem (f := intCells) (fun _ => rfl) (by omega) hlt
        obtain ⟨b', off', y, rfl, hbb', hy, hc'⟩ := (h'.belowU hb).elem (f := intCells) (fun _ => rfl) (by omega) hlt
        have d0 := hc 0 _ rfl
        have e0 := hc' 0 _ rfl
        rw [Nat.mul_one, Nat.add_zero] at d0 e0
        have hk0 : (0 : Int) ≤ (i : Int) := by omega
        have hk1 : (i : Int) < (n : Int) := by omega
        have hd : decide ((i : Int) < (n : Int)) = true := decide_eq_true hk1
        have hd2 : decide (i < n) = true := decide_eq_true hlt
        have hw : IntKind.i64.wrap ((i : Int) + 1) = (i : Int) + 1 := IntWalk.i64_in _ (by omega)
        have HX := Lib.hid hx
        have HY := Lib.hid hy
        have HT := Lib.hid ht
        clear hc hc' hx hy ht h h'
        go_upto_region 6 with fail
        have D0 := Lag.cell d0
        have E0 := Lag.cell e0
        clear d0 e0
        by_cases exy : x = y
        · subst exy
          have t2 : (x != x) = false := by simp
          refine wp_region_lag (by kernel_rfl) (by kernel_rfl) ?_
          repeat (go_big_quiet_step (fail))
          refine wpQuiet_nil ?_
          rintro w2 ⟨uu, hu⟩
          have hb2 := keep_below (hu ▸ uu.h : Below wr.heap.size wr w2) hb
          clear hu uu D0 E0
          go_wp2_with fail
          go_roundw
          case rel => exact ⟨i + 1, by omega, by go_num, by rw [take_nx' HX.out, take_nx' HY.out, HT.out], hb2⟩
          case measure => simp [intOf]; omega
        · have t2 : (x != y) = true := by simp [exy]
          have HV := Lib.hid (show decide (l = k) = false from decide_eq_false (fun e => exy (by have := HX.out; rw [e, HY.out] at this; exact (Option.some.inj this).symm)))
          refine wp_region_lag (by kernel_rfl) (by kernel_rfl) ?_
          repeat (go_big_quiet_step (fail))
          refine wpQuiet_nil ?_
          rintro w2 ⟨uu, hu⟩
          have hb2 := keep_below (hu ▸ uu.h : Below wr.heap.size wr w2) hb
          clear hu uu D0 E0
          go_wp2_with fail
          go_ret
          exact ⟨by rw [HV.out]; rfl, hb2⟩
      · have hin : i = n := by omega
        subst hin
        have hd : decide ((i : Int) < (i : Int)) = false := by simp
        have hd2 : decide (i < i) = false := by simp
        rw [List.take_of_length_le (by rw [HL.out]; omega), List.take_of_length_le (by rw [HL'.out]; omega)] at ht
        have HV := Lib.hid (show decide (l = k) = true from decide_eq_true ht)
        clear ht h h'
        go_wp2_with fail
        go_ret
        exact ⟨by rw [HV.out]; rfl, hb⟩
  · have HV := Lib.hid (show decide (l = k) = false from decide_eq_false (fun e => hnm (by rw [← hlen, ← hlen', e])))
    have t2 : ((n : Int) != (m : Int)) = true := by simp; omega
    clear h h' hlen hlen'
    go_enter Tryd.func16, Tryd.ntmps16
    go_wp2_with fail
    go_ret
    exact ⟨by rw [HV.out]; rfl, Below.refl _ _⟩
end Go.Proofs.YtnnchinpmnpfiaaDoor
/- Counting by a property: the numbers. Printed by mk_m3.py. -/
namespace Go.Proofs.YtnnchinpmnpfiaaDoor
open Go.ChangeShapes Go.WideShapes Go.RowKit Words

def typedB (k : Int) : Bool := decide (k = 1 ∨ k = 2)
def fewB (k : Int) : Bool := decide (0 ≤ k ∧ k ≤ 3)
def byteB (k : Int) : Bool := decide (0 ≤ k ∧ k ≤ 255)
def refB (k : Int) : Bool := decide (k = 2)
theorem typed_any (k : Int) (w : World) : Calls Tryd.prog 47 #[.int .i64 k] w fun e w' => e = .returned (.bool (typedB k)) ∧ Below w.heap.size w w' := by
  by_cases h1 : k = 1
  · subst h1
    go_enter Tryd.func47, Tryd.ntmps47
    go_wp2_with fail
    go_ret
    exact ⟨rfl, Below.refl _ _⟩
  by_cases h2 : k = 2
  · subst h2
    go_enter Tryd.func47, Tryd.ntmps47
    go_wp2_with fail
    go_ret
    exact ⟨rfl, Below.refl _ _⟩
  have t1 : (k == 1) = false := beq_false_of_ne h1
  have t2 : (k == 2) = false := beq_false_of_ne h2
  have HV := Lib.hid (show typedB k = false from decide_eq_false (by omega))
  go_enter Tryd.func47, Tryd.ntmps47
  go_wp2_with fail
  go_ret
  exact ⟨by rw [HV.out]; rfl, Below.refl _ _⟩
theorem isref_any (k : Int) (w : World) : Calls Tryd.prog 38 #[.int .i64 k] w fun e w' => e = .returned (.bool (refB k)) ∧ Below w.heap.size w w' := by
  have HV := Lib.hid (show refB k = (k == 2) from by unfold refB; rw [Bool.eq_iff_iff, decide_eq_true_eq, beq_iff_eq])
  go_enter Tryd.func38, Tryd.ntmps38
  go_wp2_with fail
  go_ret
  exact ⟨by rw [HV.out]; rfl, Below.refl _ _⟩
theorem few_any (k : Int) (w : World) : Calls Tryd.prog 27 #[.int .i64 k] w fun e w' => e = .returned (.bool (fewB k)) ∧ Below w.heap.size w w' := by
  by_cases h1 : 0 ≤ k
  · have t1 : decide (0 ≤ k) = true := decide_eq_true h1
    have HV := Lib.hid (show fewB k = decide (k ≤ 3) from by unfold fewB; rw [Bool.eq_iff_iff, decide_eq_true_eq, decide_eq_true_eq]; omega)
    go_enter Tryd.func27, Tryd.ntmps27
    go_wp2_with fail
    go_ret
    exact ⟨by rw [HV.out]; rfl, Below.refl _ _⟩
  · have t1 : decide (0 ≤ k) = false := decide_eq_false h1
    have HV := Lib.hid (show fewB k = false from decide_eq_false (by omega))
    go_enter Tryd.func27, Tryd.ntmps27
    go_wp2_with fail
    go_ret
    exact ⟨by rw [HV.out]; rfl, Below.refl _ _⟩
theorem byte_any (k : Int) (w : World) : Calls Tryd.prog 72 #[.int .i64 k] w fun e w' => e = .returned (.bool (byteB k)) ∧ Below w.heap.size w w' := by
  by_cases h1 : 0 ≤ k
  · have t1 : decide (0 ≤ k) = true := decide_eq_true h1
    have HV := Lib.hid (show byteB k = decide (k ≤ 255) from by unfold byteB; rw [Bool.eq_iff_iff, decide_eq_true_eq, decide_eq_true_eq]; omega)
    go_enter Tryd.func72, Tryd.ntmps72
    go_wp2_with fail
    go_ret
    exact ⟨by rw [HV.out]; rfl, Below.refl _ _⟩
  · have t1 : decide (0 ≤ k) = false := decide_eq_false h1
    have HV := Lib.hid (show byteB k = false from decide_eq_false (by omega))
    go_enter Tryd.func72, Tryd.ntmps72
    go_wp2_with fail
    go_ret
    exact ⟨by rw [HV.out]; rfl, Below.refl _ _⟩
set_option maxHeartbeats 1000000 in
theorem cntT_any (A : Option Addr) (n c : Nat) (l : List Int) (w : World) (h : Reads w w.heap.size 1 A n c (l.flatMap intCells)) (hn : n ≤ 1000000) :
    Calls Tryd.prog 37 #[.slice A n c, .func (.func 47) #[] #[]] w fun e w' => e = .returned (.int .i64 ((l.filter typedB).length : Nat)) ∧ Below w.heap.size w w' := by
  have hlen := h.length (f := intCells) (fun _ => rfl) (by omega)
  have HL := Lib.hid hlen
  clear hlen
  go_enter Tryd.func37, Tryd.ntmps37
  go_wp2_with fail
  go_loopw [5, 10] (fun s x wq => ∃ k q : Nat, k ≤ n ∧ q ≤ k ∧ x = .int .i64 k ∧ s = .int .i64 q ∧ q = ((l.take k).filter typedB).length ∧ Below w.heap.size w wq) (fun _ x _ => n - (intOf x).toNat)
  case atStart => exact ⟨0, 0, Nat.zero_le _, Nat.le_refl _, rfl, rfl, rfl, Below.refl _ _⟩
  case round =>
    obtain ⟨k, q, hk, hqk, rfl, rfl, hq, hb⟩ := hrel
    have HQ := Lib.hid hq
    clear hq
    by_cases hlt : k < n
    · obtain ⟨b, off, x, rfl, hbb, hx, hc⟩ := (h.belowU hb).elem (f := intCells) (fun _ => rfl) (by omega) hlt
      have d0 := hc 0 _ rfl
      rw [Nat.mul_one, Nat.add_zero] at d0
      have hbW := hb
      have hk0 : (0 : Int) ≤ (k : Int) := by omega
      have hk1 : (k : Int) < (n : Int) := by omega
      have hd : decide ((k : Int) < (n : Int)) = true := decide_eq_true hk1
      have hd2 : decide (k < n) = true := decide_eq_true hlt
      have hw : IntKind.i64.wrap ((k : Int) + 1) = (k : Int) + 1 := IntWalk.i64_in _ (by omega)
      have hw2 : IntKind.i64.wrap ((q : Int) + 1) = (q : Int) + 1 := IntWalk.i64_in _ (by omega)
      have HX := Lib.hid hx
      clear hc hx
      go_wp2_with fail
      refine (typed_any x _).mono ?_
      cases hp : typedB x with
      | true =>
        have HP := Lib.hid hp
        clear hp
        rintro e w2 ⟨rfl, hb2⟩
        go_wp2_with fail
        go_roundw
        case rel => exact ⟨k + 1, q + 1, by omega, by omega, by go_num, by go_num, by rw [take_nx' HX.out, List.filter_append, List.length_append, ← HQ.out, List.filter_cons_of_pos HP.out]; rfl, keep_below hb2 hbW⟩
        case measure => simp [intOf]; omega
      | false =>
        have HP := Lib.hid hp
        clear hp
        rintro e w2 ⟨rfl, hb2⟩
        go_wp2_with fail
        go_roundw
        case rel => exact ⟨k + 1, q, by omega, by omega, by go_num, rfl, by rw [take_nx' HX.out, List.filter_append, List.length_append, ← HQ.out, List.filter_cons_of_neg (by rw [HP.out]; decide)]; rfl, keep_below hb2 hbW⟩
        case measure => simp [intOf]; omega
    · have hkn : k = n := by omega
      subst hkn
      have hd : decide ((k : Int) < (k : Int)) = false := by simp
      have hd2 : decide (k < k) = false := by simp
      have HV := Lib.hid (show q = (l.filter typedB).length from by rw [HQ.out, List.take_of_length_le (by rw [HL.out]; omega)])
      go_wp2_with fail
      go_ret
      exact ⟨by rw [← HV.out]; rfl, hb⟩
set_option maxHeartbeats 1000000 in
theorem cntR_any (A : Option Addr) (n c : Nat) (l : List Int) (w : World) (h : Reads w w.heap.size 1 A n c (l.flatMap intCells)) (hn : n ≤ 1000000) :
    Calls Tryd.prog 37 #[.slice A n c, .func (.func 38) #[] #[]] w fun e w' => e = .returned (.int .i64 ((l.filter refB).length : Nat)) ∧ Below w.heap.size w w' := by
  have hlen := h.length (f := intCells) (fun _ => rfl) (by omega)
  have HL := Lib.hid hlen
  clear hlen
  go_enter Tryd.func37, Tryd.ntmps37
  go_wp2_with fail
  go_loopw [5, 10] (fun s x wq => ∃ k q : Nat, k ≤ n ∧ q ≤ k ∧ x = .int .i64 k ∧ s = .int .i64 q ∧ q = ((l.take k).filter refB).length ∧ Below w.heap.size w wq) (fun _ x _ => n - (intOf x).toNat)
  case atStart => exact ⟨0, 0, Nat.zero_le _, Nat.le_refl _, rfl, rfl, rfl, Below.refl _ _⟩
  case round =>
    obtain ⟨k, q, hk, hqk, rfl, rfl, hq, hb⟩ := hrel
    have HQ := Lib.hid hq
    clear hq
    by_cases hlt : k < n
    · obtain ⟨b, off, x, rfl, hbb, hx, hc⟩ := (h.belowU hb).elem (f := intCells) (fun _ => rfl) (by omega) hlt
      have d0 := hc 0 _ rfl
      rw [Nat.mul_one, Nat.add_zero] at d0
      have hbW := hb
      have hk0 : (0 : Int) ≤ (k : Int) := by omega
      have hk1 : (k : Int) < (n : Int) := by omega
      have hd : decide ((k : Int) < (n : Int)) = true := decide_eq_true hk1
      have hd2 : decide (k < n) = true := decide_eq_true hlt
      have hw : IntKind.i64.wrap ((k : Int) + 1) = (k : Int) + 1 := IntWalk.i64_in _ (by omega)
      have hw2 : IntKind.i64.wrap ((q : Int) + 1) = (q : Int) + 1 := IntWalk.i64_in _ (by omega)
      have HX := Lib.hid hx
      clear hc hx
      go_wp2_with fail
      refine (isref_any x _).mono ?_
      cases hp : refB x with
      | true =>
        have HP := Lib.hid hp
        clear hp
        rintro e w2 ⟨rfl, hb2⟩
        go_wp2_with fail
        go_roundw
        case rel => exact ⟨k + 1, q + 1, by omega, by omega, by go_num, by go_num, by rw [take_nx' HX.out, List.filter_append, List.length_append, ← HQ.out, List.filter_cons_of_pos HP.out]; rfl, keep_below hb2 hbW⟩
        case measure => simp [intOf]; omega
      | false =>
        have HP := Lib.hid hp
        clear hp
        rintro e w2 ⟨rfl, hb2⟩
        go_wp2_with fail
        go_roundw
        case rel => exact ⟨k + 1, q, by omega, by omega, by go_num, rfl, by rw [take_nx' HX.out, List.filter_append, List.length_append, ← HQ.out, List.filter_cons_of_neg (by rw [HP.out]; decide)]; rfl, keep_below hb2 hbW⟩
        case measure => simp [intOf]; omega
    · have hkn : k = n := by omega
      subst hkn
      have hd : decide ((k : Int) < (k : Int)) = false := by simp
      have hd2 : decide (k < k) = false := by simp
      have HV := Lib.hid (show q = (l.filter refB).length from by rw [HQ.out, List.take_of_length_le (by rw [HL.out]; omega)])
      go_wp2_with fail
      go_ret
      exact ⟨by rw [← HV.out]; rfl, hb⟩
set_option maxHeartbeats 1000000 in
theorem cntF_any (A : Option Addr) (n c : Nat) (l : List Int) (w : World) (h : Reads w w.heap.size 1 A n c (l.flatMap intCells)) (hn : n ≤ 1000000) :
    Calls Tryd.prog 37 #[.slice A n c, .func (.func 27) #[] #[]] w fun e w' => e = .returned (.int .i64 ((l.filter fewB).length : Nat)) ∧ Below w.heap.size w w' := by
  have hlen := h.length (f := intCells) (fun _ => rfl) (by omega)
  have HL := Lib.hid hlen
  clear hlen
  go_enter Tryd.func37, Tryd.ntmps37
  go_wp2_with fail
  go_loopw [5, 10] (fun s x wq => ∃ k q : Nat, k ≤ n ∧ q ≤ k ∧ x = .int .i64 k ∧ s = .int .i64 q ∧ q = ((l.take k).filter fewB).length ∧ Below w.heap.size w wq) (fun _ x _ => n - (intOf x).toNat)
  case atStart => exact ⟨0, 0, Nat.zero_le _, Nat.le_refl _, rfl, rfl, rfl, Below.refl _ _⟩
  case round =>
    obtain ⟨k, q, hk, hqk, rfl, rfl, hq, hb⟩ := hrel
    have HQ := Lib.hid hq
    clear hq
    by_cases hlt : k < n
    · obtain ⟨b, off, x, rfl, hbb, hx, hc⟩ := (h.belowU hb).elem (f := intCells) (fun _ => rfl) (by omega) hlt
      have d0 := hc 0 _ rfl
      rw [Nat.mul_one, Nat.add_zero] at d0
      have hbW := hb
      have hk0 : (0 : Int) ≤ (k : Int) := by omega
      have hk1 : (k : Int) < (n : Int) := by omega
      have hd : decide ((k : Int) < (n : Int)) = true := decide_eq_true hk1
      have hd2 : decide (k < n) = true := decide_eq_true hlt
      have hw : IntKind.i64.wrap ((k : Int) + 1) = (k : Int) + 1 := IntWalk.i64_in _ (by omega)
      have hw2 : IntKind.i64.wrap ((q : Int) + 1) = (q : Int) + 1 := IntWalk.i64_in _ (by omega)
      have HX := Lib.hid hx
      clear hc hx
      go_wp2_with fail
      refine (few_any x _).mono ?_
      cases hp : fewB x with
      | true =>
        have HP := Lib.hid hp
        clear hp
        rintro e w2 ⟨rfl, hb2⟩
        go_wp2_with fail
        go_roundw
        case rel => exact ⟨k + 1, q + 1, by omega, by omega, by go_num, by go_num, by rw [take_nx' HX.out, List.filter_append, List.length_append, ← HQ.out, List.filter_cons_of_pos HP.out]; rfl, keep_below hb2 hbW⟩
        case measure => simp [intOf]; omega
      | false =>
        have HP := Lib.hid hp
        clear hp
        rintro e w2 ⟨rfl, hb2⟩
        go_wp2_with fail
        go_roundw
        case rel => exact ⟨k + 1, q, by omega, by omega, by go_num, rfl, by rw [take_nx' HX.out, List.filter_append, List.length_append, ← HQ.out, List.filter_cons_of_neg (by rw [HP.out]; decide)]; rfl, keep_below hb2 hbW⟩
        case measure => simp [intOf]; omega
    · have hkn : k = n := by omega
      subst hkn
      have hd : decide ((k : Int) < (k : Int)) = false := by simp
      have hd2 : decide (k < k) = false := by simp
      have HV := Lib.hid (show q = (l.filter fewB).length from by rw [HQ.out, List.take_of_length_le (by rw [HL.out]; omega)])
      go_wp2_with fail
      go_ret
      exact ⟨by rw [← HV.out]; rfl, hb⟩
set_option maxHeartbeats 1000000 in
theorem cntB_any (A : Option Addr) (n c : Nat) (l : List Int) (w : World) (h : Reads w w.heap.size 1 A n c (l.flatMap intCells)) (hn : n ≤ 1000000) :
    Calls Tryd.prog 37 #[.slice A n c, .func (.func 72) #[] #[]] w fun e w' => e = .returned (.int .i64 ((l.filter byteB).length : Nat)) ∧ Below w.heap.size w w' := by
  have hlen := h.length (f := intCells) (fun _ => rfl) (by omega)
  have HL := Lib.hid hlen
  clear hlen
  go_enter Tryd.func37, Tryd.ntmps37
  go_wp2_with fail
  go_loopw [5, 10] (fun s x wq => ∃ k q : Nat, k ≤ n ∧ q ≤ k ∧ x = .int .i64 k ∧ s = .int .i64 q ∧ q = ((l.take k).filter byteB).length ∧ Below w.heap.size w wq) (fun _ x _ => n - (intOf x).toNat)
  case atStart => exact ⟨0, 0, Nat.zero_le _, Nat.le_refl _, rfl, rfl, rfl, Below.refl _ _⟩
  case round =>
    obtain ⟨k, q, hk, hqk, rfl, rfl, hq, hb⟩ := hrel
    have HQ := Lib.hid hq
    clear hq
    by_cases hlt : k < n
    · obtain ⟨b, off, x, rfl, hbb, hx, hc⟩ := (h.belowU hb).elem (f := intCells) (fun _ => rfl) (by omega) hlt
      have d0 := hc 0 _ rfl
      rw [Nat.mul_one, Nat.add_zero] at d0
      have hbW := hb
      have hk0 : (0 : Int) ≤ (k : Int) := by omega
      have hk1 : (k : Int) < (n : Int) := by omega
      have hd : decide ((k : Int) < (n : Int)) = true := decide_eq_true hk1
      have hd2 : decide (k < n) = true := decide_eq_true hlt
      have hw : IntKind.i64.wrap ((k : Int) + 1) = (k : Int) + 1 := IntWalk.i64_in _ (by omega)
      have hw2 : IntKind.i64.wrap ((q : Int) + 1) = (q : Int) + 1 := IntWalk.i64_in _ (by omega)
      have HX := Lib.hid hx
      clear hc hx
      go_wp2_with fail
      refine (byte_any x _).mono ?_
      cases hp : byteB x with
      | true =>
        have HP := Lib.hid hp
        clear hp
        rintro e w2 ⟨rfl, hb2⟩
        go_wp2_with fail
        go_roundw
        case rel => exact ⟨k + 1, q + 1, by omega, by omega, by go_num, by go_num, by rw [take_nx' HX.out, List.filter_append, List.length_append, ← HQ.out, List.filter_cons_of_pos HP.out]; rfl, keep_below hb2 hbW⟩
        case measure => simp [intOf]; omega
      | false =>
        have HP := Lib.hid hp
        clear hp
        rintro e w2 ⟨rfl, hb2⟩
        go_wp2_with fail
        go_roundw
        case rel => exact ⟨k + 1, q, by omega, by omega, by go_num, rfl, by rw [take_nx' HX.out, List.filter_append, List.length_append, ← HQ.out, List.filter_cons_of_neg (by rw [HP.out]; decide)]; rfl, keep_below hb2 hbW⟩
        case measure => simp [intOf]; omega
    · have hkn : k = n := by omega
      subst hkn
      have hd : decide ((k : Int) < (k : Int)) = false := by simp
      have hd2 : decide (k < k) = false := by simp
      have HV := Lib.hid (show q = (l.filter byteB).length from by rw [HQ.out, List.take_of_length_le (by rw [HL.out]; omega)])
      go_wp2_with fail
      go_ret
      exact ⟨by rw [← HV.out]; rfl, hb⟩
theorem all_count {α : Type} (p : α → Bool) (l : List α) : l.all p = (((l.filter p).length : Int) == (l.length : Int)) := by
  rw [Bool.eq_iff_iff, List.all_eq_true, beq_iff_eq]
  constructor
  · intro h
    rw [List.filter_eq_self.2 h]
  · intro h
    have h2 : (l.filter p).length = l.length := by omega
    exact List.filter_eq_self.1 (List.filter_sublist.eq_of_length h2)
theorem allT_any (A : Option Addr) (n c : Nat) (l : List Int) (w : World) (h : Reads w w.heap.size 1 A n c (l.flatMap intCells)) (hn : n ≤ 1000000) :
    Calls Tryd.prog 26 #[.slice A n c, .func (.func 47) #[] #[]] w fun e w' => e = .returned (.bool (l.all typedB)) ∧ Below w.heap.size w w' := by
  have hlen := h.length (f := intCells) (fun _ => rfl) (by omega)
  have HV := Lib.hid (show l.all typedB = (((l.filter typedB).length : Int) == (n : Int)) from by rw [← hlen]; exact all_count typedB l)
  clear hlen
  go_enter Tryd.func26, Tryd.ntmps26
  go_wp2_with fail
  refine (cntT_any A n c l _ h hn).mono ?_
  rintro e w2 ⟨rfl, hb2⟩
  go_wp2_with fail
  go_ret
  exact ⟨by rw [HV.out]; rfl, hb2⟩
theorem allF_any (A : Option Addr) (n c : Nat) (l : List Int) (w : World) (h : Reads w w.heap.size 1 A n c (l.flatMap intCells)) (hn : n ≤ 1000000) :
    Calls Tryd.prog 26 #[.slice A n c, .func (.func 27) #[] #[]] w fun e w' => e = .returned (.bool (l.all fewB)) ∧ Below w.heap.size w w' := by
  have hlen := h.length (f := intCells) (fun _ => rfl) (by omega)
  have HV := Lib.hid (show l.all fewB = (((l.filter fewB).length : Int) == (n : Int)) from by rw [← hlen]; exact all_count fewB l)
  clear hlen
  go_enter Tryd.func26, Tryd.ntmps26
  go_wp2_with fail
  refine (cntF_any A n c l _ h hn).mono ?_
  rintro e w2 ⟨rfl, hb2⟩
  go_wp2_with fail
  go_ret
  exact ⟨by rw [HV.out]; rfl, hb2⟩
theorem allB_any (A : Option Addr) (n c : Nat) (l : List Int) (w : World) (h : Reads w w.heap.size 1 A n c (l.flatMap intCells)) (hn : n ≤ 1000000) :
    Calls Tryd.prog 26 #[.slice A n c, .func (.func 72) #[] #[]] w fun e w' => e = .returned (.bool (l.all byteB)) ∧ Below w.heap.size w w' := by
  have hlen := h.length (f := intCells) (fun _ => rfl) (by omega)
  have HV := Lib.hid (show l.all byteB = (((l.filter byteB).length : Int) == (n : Int)) from by rw [← hlen]; exact all_count byteB l)
  clear hlen
  go_enter Tryd.func26, Tryd.ntmps26
  go_wp2_with fail
  refine (cntB_any A n c l _ h hn).mono ?_
  rintro e w2 ⟨rfl, hb2⟩
  go_wp2_with fail
  go_ret
  exact ⟨by rw [HV.out]; rfl, hb2⟩
end Go.Proofs.YtnnchinpmnpfiaaDoor
/- The program's rank; functions given to the program under test. -/
namespace Go.Proofs.YtnnchinpmnpfiaaDoor
open Go.ChangeShapes Go.WideShapes Go.RowKit Words

theorem Reads.pre {α : Type} {f : α → List Value} {w : World} {B s n c : Nat} {A : Option Addr} {l : List α} (h : Reads w B s A n c (l.flatMap f)) (hs : ∀ a, (f a).length = s) (h0 : 0 < s) {k : Nat} (hk : k ≤ n) : Reads w B s A k c ((l.take k).flatMap f) := by
  have hl := h.length hs h0
  have hle := h.le
  refine ⟨by rw [flat_len f s hs, List.length_take]; congr 1; omega, by omega, h.cap, h.none_, fun hk0 => ?_⟩
  obtain ⟨b, off, hA, hb, hc⟩ := h.at_ (by omega)
  refine ⟨b, off, hA, hb, fun j u hu => hc j u ?_⟩
  have e : l.flatMap f = (l.take k).flatMap f ++ (l.drop k).flatMap f := by rw [← List.flatMap_append, List.take_append_drop]
  rw [e, List.getElem?_append_left (List.getElem?_eq_some_iff.1 hu).1]
  exact hu
theorem rank_ref (l : List Int) : rankL l = (l.filter refB).length := rfl
set_option maxHeartbeats 1000000 in
theorem rank_any (p : Int) (A : Option Addr) (n c : Nat) (r : Int) (B : Option Addr) (m d : Nat) (l : List Int) (i : Int) (w : World) (h : Reads w w.heap.size 1 A n c (l.flatMap intCells)) (hn : n ≤ 1000000) :
    Calls Tryd.prog 18 #[fnV p A n c r B m d, .int .i64 i] w fun e w' => e = .returned (.int .i64 (rankL (l.take i.toNat))) ∧ Below w.heap.size w w' := by
  have hlen := h.length (f := intCells) (fun _ => rfl) (by omega)
  have hB0 : Below w.heap.size w (w.alloc (.cells #[.int .i64 p, .slice A n c, .int .i64 r, .slice B m d] 49)) := keep_alloc (Below.refl _ _) _
  have h1 := h.belowU hB0
  have hle := h.le
  have HL := Lib.hid hlen
  clear hlen h
  by_cases h0 : i < 0
  · have hd : decide (i < 0) = true := decide_eq_true h0
    have hi0 : i.toNat = 0 := by omega
    have hrd := (h1.pre (f := intCells) (fun _ => rfl) (by omega) (k := 0) (by omega))
    have HV := Lib.hid (show rankL (l.take i.toNat) = ((l.take 0).filter refB).length from by rw [rank_ref]; rw [hi0])
    go_enter Tryd.func18, Tryd.ntmps18
    go_wp2_with fail
    refine (cntR_any A 0 c (l.take 0) _ hrd (by omega)).mono ?_
    rintro e w2 ⟨rfl, hb2⟩
    go_wp2_with fail
    go_ret
    exact ⟨by rw [HV.out]; rfl, keep_below hb2 hB0⟩
  obtain ⟨j, rfl⟩ : ∃ j : Nat, i = j := ⟨i.toNat, by omega⟩
  by_cases hj : j ≤ n
  · have hd : decide ((j : Int) < 0) = false := decide_eq_false h0
    have hjn : decide ((j : Int) ≤ (n : Int)) = true := decide_eq_true (by omega)
    have hjn2 : ¬ ((n : Int) < (j : Int)) := by omega
    have hjc : (j : Int) ≤ (c : Int) := by omega
    have hj0 : (0 : Int) ≤ (j : Int) := by omega
    have hrd := (h1.pre (f := intCells) (fun _ => rfl) (by omega) (k := j) (by omega))
    have HV := Lib.hid (show rankL (l.take (j : Int).toNat) = ((l.take j).filter refB).length from by rw [rank_ref]; rw [Int.toNat_natCast])
    go_enter Tryd.func18, Tryd.ntmps18
    go_wp2_with fail
    refine (cntR_any A j c (l.take j) _ hrd (by omega)).mono ?_
    rintro e w2 ⟨rfl, hb2⟩
    go_wp2_with fail
    go_ret
    exact ⟨by rw [HV.out]; rfl, keep_below hb2 hB0⟩
  · have hd : decide ((j : Int) < 0) = false := decide_eq_false h0
    have hjn : decide ((j : Int) ≤ (n : Int)) = false := decide_eq_false (by omega)
    have hjn2 : (n : Int) < (j : Int) := by omega
    have hjc : (n : Int) ≤ (c : Int) := by omega
    have hj0 : (0 : Int) ≤ (n : Int) := by omega
    have hrd := (h1.pre (f := intCells) (fun _ => rfl) (by omega) (k := n) (by omega))
    have HV := Lib.hid (show rankL (l.take (j : Int).toNat) = ((l.take n).filter refB).length from by rw [rank_ref]; rw [Int.toNat_natCast, List.take_of_length_le (show l.length ≤ j by have := HL.out; omega), List.take_of_length_le (show l.length ≤ n by have := HL.out; omega)])
    go_enter Tryd.func18, Tryd.ntmps18
    go_wp2_with fail
    refine (cntR_any A n c (l.take n) _ hrd (by omega)).mono ?_
    rintro e w2 ⟨rfl, hb2⟩
    go_wp2_with fail
    go_ret
    exact ⟨by rw [HV.out]; rfl, keep_below hb2 hB0⟩
end Go.Proofs.YtnnchinpmnpfiaaDoor
/- A function given to the program under test. Printed by mk_m5.py. -/
namespace Go.Proofs.YtnnchinpmnpfiaaDoor
open Go.ChangeShapes Go.WideShapes Go.RowKit Words

theorem if_yes {c : Bool} {A B : Prop} (h : c = true) (a : A) : if c = true then A else B := by rw [if_pos h]; exact a
/-- a function comes back: the same numbers and kinds, the instructions in memory of the call's own -/
def RetFn (w : World) (p : Int) (A : Option Addr) (n c : Nat) (r : Int) (ins : List NI) (e : Ending) (w' : World) : Prop :=
  ∃ B d, e = .returned (fnV p A n c r B ins.length d) ∧ Reads w' w'.heap.size 5 B ins.length d (ins.flatMap insCells) ∧ Below w.heap.size w w'
/-- the same, and the instructions lie above all that was there -/
def RetFnO (w : World) (p : Int) (A : Option Addr) (n c : Nat) (r : Int) (ins : List NI) (e : Ending) (w' : World) : Prop :=
  ∃ B d, e = .returned (fnV p A n c r B ins.length d) ∧ Reads w' w'.heap.size 5 B ins.length d (ins.flatMap insCells) ∧ Below w.heap.size w w' ∧ ∀ b off, B = some ⟨b, off, none⟩ → w.heap.size ≤ b
set_option linter.unusedSimpArgs false in
set_option maxRecDepth 100000 in
set_option maxHeartbeats 4000000 in
theorem function_own (p : Int) (A : Option Addr) (n c : Nat) (r : Int) (B : Option Addr) (m d : Nat) (ins : List NI) (w : World) (h : Reads w w.heap.size 5 B m d (ins.flatMap insCells)) (hm : m ≤ 1000000) :
    Calls Tryd.prog 13 #[fnV p A n c r B m d] w (RetFnO w p A n c r ins) := by
  have hlen := h.length insCells_len (by omega)
  have hB0 : Below w.heap.size w (((w.alloc (.cells #[.int .i64 p, .slice A n c, .int .i64 r, .slice B m d] 44)).alloc (.cells #[.int .i64 0, .slice none 0 0, .int .i64 0, .slice none 0 0] 49)).alloc (.cells #[.int .i64 p, .slice A n c, .int .i64 r, .slice none 0 0] 49)) := keep_alloc (keep_alloc (keep_alloc (Below.refl _ _) _) _) _
  have P0 := ((Blk.new w #[.int .i64 p, .slice A n c, .int .i64 r, .slice B m d] 44).alloc (.cells #[.int .i64 0, .slice none 0 0, .int .i64 0, .slice none 0 0] 49)).alloc (.cells #[.int .i64 p, .slice A n c, .int .i64 r, .slice none 0 0] 49)
  have R0 := (Blk.newAt (w.alloc (.cells #[.int .i64 p, .slice A n c, .int .i64 r, .slice B m d] 44)) #[.int .i64 0, .slice none 0 0, .int .i64 0, .slice none 0 0] 49 (w.heap.size + 1) (by simp)).alloc (.cells #[.int .i64 p, .slice A n c, .int .i64 r, .slice none 0 0] 49)
  have O0 := Blk.newAt ((w.alloc (.cells #[.int .i64 p, .slice A n c, .int .i64 r, .slice B m d] 44)).alloc (.cells #[.int .i64 0, .slice none 0 0, .int .i64 0, .slice none 0 0] 49)) #[.int .i64 p, .slice A n c, .int .i64 r, .slice none 0 0] 49 (w.heap.size + 1 + 1) (by simp)
  have HL := Lib.hid hlen
  have y0 := (Blk.new w #[.int .i64 p, .slice A n c, .int .i64 r, .slice B m d] 44).cell 0 _ rfl
  clear hlen
  go_enter Tryd.func13, Tryd.ntmps13
  go_wp2_with fail
  obtain ⟨w1, hw1⟩ : ∃ w1, ((w.alloc (.cells #[.int .i64 p, .slice A n c, .int .i64 r, .slice B m d] 44)).alloc (.cells #[.int .i64 0, .slice none 0 0, .int .i64 0, .slice none 0 0] 49)).alloc (.cells #[.int .i64 p, .slice A n c, .int .i64 r, .slice none 0 0] 49) = w1 := ⟨_, rfl⟩
  have hs1 : w1.heap.size = w.heap.size + 3 := by rw [← hw1]; simp
  rw [hw1] at hB0 P0 R0 O0 ⊢
  have h1 := h.below hB0
  obtain ⟨g, hg⟩ : ∃ g, w.heap.size = g := ⟨_, rfl⟩
  rw [hg] at hB0 P0 R0 O0 hs1 h1 ⊢
  obtain ⟨a2, ha2⟩ : ∃ a2, g + 1 + 1 = a2 := ⟨_, rfl⟩
  have hga : g + 2 = a2 := by omega
  rw [ha2] at O0 ⊢
  have HG := Lib.hid hg
  clear hw1 y0 h hg ha2
  go_loopw [4] (fun x wq => ∃ (k : Nat) (A' : Option Addr) (e' : Nat), k ≤ m ∧ x = .int .i64 k ∧ wq.ownsRow (a2 + 1) 53 5 (.slice A' k e') k ((ins.take k).flatMap insCells) ∧ Blk wq a2 49 #[.int .i64 p, .slice A n c, .int .i64 r, .slice A' k e'] ∧ Below a2 w1 wq ∧ w1.heap.size ≤ wq.heap.size) (fun x _ => m - (intOf x).toNat)
  case atStart => exact ⟨0, none, 0, Nat.zero_le _, rfl, World.ownsRow_nil _ _ _ _, O0, Below.refl _ _, Nat.le_refl _⟩
  case round =>
    obtain ⟨k, A', e', hk, rfl, hown, O, hb, hsz⟩ := hrel
    have P := P0.belowB hb (by omega)
    have p3 : wr.cell? ⟨g, 3, none⟩ = some (.slice B m d) := P.cell 3 _ rfl
    by_cases hlt : k < m
    · obtain ⟨b0, off, x, rfl, hbb, hx, hc⟩ := (h1.below (hb.mono (by omega))).elem insCells_len (by omega) hlt
      obtain ⟨op, a, b, c', kk⟩ := x
      have d0 : wr.cell? ⟨b0, off + k * 5, none⟩ = some (.int .i64 op) := hc 0 _ rfl
      have d1 := hc 1 _ rfl
      have d2 := hc 2 _ rfl
      have d3 := hc 3 _ rfl
      have d4 := hc 4 _ rfl
      dsimp only at d1 d2 d3 d4
      have hk0 : (0 : Int) ≤ (k : Int) := by omega
      have hk1 : (k : Int) < (m : Int) := by omega
      have hd : decide ((k : Int) < (m : Int)) = true := decide_eq_true hk1
      have hd2 : decide (k < m) = true := decide_eq_true hlt
      have hw : IntKind.i64.wrap ((k : Int) + 1) = (k : Int) + 1 := IntWalk.i64_in _ (by omega)
      have HS := Lib.hid (show (ins.take (k + 1)).flatMap insCells = (ins.take k).flatMap insCells ++ [.int .i64 op, .int .i64 a, .int .i64 b, .int .i64 c', .int .u64 (U kk)] from by rw [take_nx' hx, List.flatMap_append]; rfl)
      have q1' : k + 1 ≤ maxLen := by unfold maxLen; omega
      have q2' : (k + 1) * 40 ≤ 140737488355328 := by omega
      have hb0a : b0 < a2 := by omega
      have hgl : g < a2 := by omega
      clear hc hx
      go_upto_region 5 with fail
      have hH : Below wr.heap.size wr (World.drew wr) := (Below.refl _ _).drew
      have o3 : (World.drew wr).cell? ⟨a2, 3, none⟩ = some (.slice A' k e') := O.cell 3 _ rfl
      refine wp_region_noPanic ?_
      refine wp_region_held_drew (S := fun w' => Below a2 wr w') (by kernel_rfl) (Below.refl _ _).drew (fun hHeld => ?_)
      refine wpAnyH_take (i := 0) (v := ?_) rfl (by kernel_rfl) (by kernel_rfl) (by kernel_rfl) (fun _ _ _ h => h) (Or.inl ⟨by rfl, ?_⟩) (by assumption) ?_
      rotate_left
      · intro wq hSw; clear hSw; go_simp; (try with_reducible rfl)
      (try simp only [List.getElem_toArray, List.getElem_cons_zero, List.getElem_cons_succ, Act.put, List.setIfInBounds_toArray, List.set_cons_zero, List.set_cons_succ])
      refine wpAnyH_take (i := 2) (v := ?_) rfl (by kernel_rfl) (by kernel_rfl) (by kernel_rfl) (fun _ _ _ h => h) (Or.inl ⟨by rfl, ?_⟩) (by assumption) ?_
      rotate_left
      · intro wq hSw; clear hSw; go_simp; (try with_reducible rfl)
      (try simp only [List.getElem_toArray, List.getElem_cons_zero, List.getElem_cons_succ, Act.put, List.setIfInBounds_toArray, List.set_cons_zero, List.set_cons_succ])
      refine wpAnyH_take (i := 3) (v := ?_) rfl (by kernel_rfl) (by kernel_rfl) (by kernel_rfl) (fun _ _ _ h => h) (Or.inl ⟨by rfl, ?_⟩) (by assumption) ?_
      rotate_left
      · intro wq hSw; have zp3 := (hSw.cell (p := ⟨g, 3, none⟩) hgl).trans p3; clear hSw; go_simp; (try with_reducible rfl)
      (try simp only [List.getElem_toArray, List.getElem_cons_zero, List.getElem_cons_succ, Act.put, List.setIfInBounds_toArray, List.set_cons_zero, List.set_cons_succ])
      refine wpAnyH_take (i := 4) (v := ?_) rfl (by kernel_rfl) (by kernel_rfl) (by kernel_rfl) (fun _ _ _ h => h) (Or.inl ⟨by rfl, ?_⟩) (by assumption) ?_
      rotate_left
      · intro wq hSw; clear hSw; go_simp; (try with_reducible rfl)
      (try simp only [List.getElem_toArray, List.getElem_cons_zero, List.getElem_cons_succ, Act.put, List.setIfInBounds_toArray, List.set_cons_zero, List.set_cons_succ])
      refine wpAnyH_take (i := 5) (v := ?_) rfl (by kernel_rfl) (by kernel_rfl) (by kernel_rfl) (fun _ _ _ h => h) (Or.inl ⟨by rfl, ?_⟩) (by assumption) ?_
      rotate_left
      · intro wq hSw; clear hSw; go_simp; (try with_reducible rfl)
      (try simp only [List.getElem_toArray, List.getElem_cons_zero, List.getElem_cons_succ, Act.put, List.setIfInBounds_toArray, List.set_cons_zero, List.set_cons_succ])
      refine wpAnyH_take (i := 6) (v := ?_) rfl (by kernel_rfl) (by kernel_rfl) (by kernel_rfl) (fun _ _ _ h => h) (Or.inl ⟨by rfl, ?_⟩) (by assumption) ?_
      rotate_left
      · intro wq hSw; have zd0 := (hSw.cell (p := ⟨b0, off + k * 5, none⟩) hb0a).trans d0; have zd1 := (hSw.cell (p := ⟨b0, off + k * 5 + 1, none⟩) hb0a).trans d1; have zd2 := (hSw.cell (p := ⟨b0, off + k * 5 + 2, none⟩) hb0a).trans d2; have zd3 := (hSw.cell (p := ⟨b0, off + k * 5 + 3, none⟩) hb0a).trans d3; have zd4 := (hSw.cell (p := ⟨b0, off + k * 5 + 4, none⟩) hb0a).trans d4; clear hSw; go_simp; (try with_reducible rfl)
      (try simp only [List.getElem_toArray, List.getElem_cons_zero, List.getElem_cons_succ, Act.put, List.setIfInBounds_toArray, List.set_cons_zero, List.set_cons_succ])
      refine wpAnyH_ready (rs := [1, 7]) (by kernel_rfl) (by simp) ?_
      refine AllReadyH.cons (i := 1) (by rfl) ?_ (AllReadyH.cons (i := 7) (by rfl) ?_ (AllReadyH.nil))
      · skip
        intro K' hK
        simp only [List.getElem_toArray, List.getElem_cons_zero, List.getElem_cons_succ]
        refine if_yes (by kernel_rfl) ?_
        go_big_op
        refine hK.out _ _ ?_ (fun hHeld2 => ?_)
        · exact hHeld
        clear hK K' hHeld
        have hHeld := hHeld2
        clear hHeld2
        (try simp only [List.getElem_toArray, List.getElem_cons_zero, List.getElem_cons_succ, Act.put, List.setIfInBounds_toArray, List.set_cons_zero, List.set_cons_succ])
        refine wpAnyH_ready (rs := [7]) (by kernel_rfl) (by simp) ?_
        refine AllReadyH.cons (i := 7) (by rfl) ?_ (AllReadyH.nil)
        · skip
          intro K' hK
          simp only [List.getElem_toArray, List.getElem_cons_zero, List.getElem_cons_succ]
          refine if_yes (by kernel_rfl) ?_
          go_big_op
          (go_at_call 14; refine (ins_any ⟨op, a, b, c', kk⟩ _).mono ?_; rintro e w2 ⟨rfl, hb1⟩)
          refine hK.out _ _ ?_ (fun hHeld2 => ?_)
          · exact hHeld.trans (hb1.mono (by have := hH.size; omega))
          clear hK K' hHeld
          have hHeld := hHeld2
          clear hHeld2
          (try simp only [List.getElem_toArray, List.getElem_cons_zero, List.getElem_cons_succ, Act.put, List.setIfInBounds_toArray, List.set_cons_zero, List.set_cons_succ])
          have hH := keep_below hb1 hH
          have o3 := keep_cell hb1 o3
          clear hb1
          refine wpAnyH_ready (rs := [8]) (by kernel_rfl) (by simp) ?_
          refine AllReadyH.cons (i := 8) (by rfl) ?_ (AllReadyH.nil)
          · skip
            intro K' hK
            simp only [List.getElem_toArray, List.getElem_cons_zero, List.getElem_cons_succ]
            refine if_yes (by kernel_rfl) ?_
            go_big_op
            refine hK.out _ _ ?_ (fun hHeld2 => ?_)
            · exact hHeld.alloc (by have := hH.size; omega) _
            clear hK K' hHeld
            have hHeld := hHeld2
            clear hHeld2
            (try simp only [List.getElem_toArray, List.getElem_cons_zero, List.getElem_cons_succ, Act.put, List.setIfInBounds_toArray, List.set_cons_zero, List.set_cons_succ])
            have hfr := Reads.freshAs w2 #[.int .i64 op, .int .i64 a, .int .i64 b, .int .i64 c', .int .u64 (U kk)] 53 5 1 [.int .i64 op, .int .i64 a, .int .i64 b, .int .i64 c', .int .u64 (U kk)] rfl rfl (by decide)
            have o3 := (keep_cell (keep_alloc (Below.refl w2.heap.size w2) (.cells #[.int .i64 op, .int .i64 a, .int .i64 b, .int .i64 c', .int .u64 (U kk)] 53)) o3)
            have hH := keep_alloc hH (.cells #[.int .i64 op, .int .i64 a, .int .i64 b, .int .i64 c', .int .u64 (U kk)] 53)
            refine wpAnyH_ready (rs := [9]) (by kernel_rfl) (by simp) ?_
            refine AllReadyH.cons (i := 9) (by rfl) ?_ AllReadyH.nil
            have hownC := own_keep hown hH
            intro K' hK
            refine step_app rfl _ _ _ (by rfl) tyMIns (by rfl) hownC (by rfl) hfr (by simp [Value.oneCell']) q1' q2' (by have := hH.size; omega) ?_; intro v' w6 hown' hbG; obtain ⟨A3, c3, rfl, -⟩ := Reads.own hown'
            refine hK.out _ _ ?_ (fun hHeld2 => ?_)
            · exact hHeld.trans (hbG.mono (by omega))
            clear hK K' hHeld
            have hHeld := hHeld2
            clear hHeld2
            (try simp only [List.getElem_toArray, List.getElem_cons_zero, List.getElem_cons_succ, Act.put, List.setIfInBounds_toArray, List.set_cons_zero, List.set_cons_succ])
            have O6 := (O.below hH).belowB hbG (by omega)
            have o6 := O6.cell 3 _ rfl
            have e6 := O6.free
            refine wpAnyH_take (i := 10) (v := ?_) rfl (by kernel_rfl) (by kernel_rfl) (by kernel_rfl) (fun _ _ _ h => h) (Or.inl ⟨by rfl, ?_⟩) (by assumption) ?_
            rotate_left
            · intro wq hSw; clear hSw; go_simp; (try with_reducible rfl)
            (try simp only [List.getElem_toArray, List.getElem_cons_zero, List.getElem_cons_succ, Act.put, List.setIfInBounds_toArray, List.set_cons_zero, List.set_cons_succ])
            refine wpAnyH_ready (rs := [11]) (by kernel_rfl) (by simp) ?_
            refine AllReadyH.cons (i := 11) (by rfl) ?_ AllReadyH.nil
            intro K' hK
            simp only [List.getElem_toArray, List.getElem_cons_zero, List.getElem_cons_succ]
            refine if_yes (by kernel_rfl) ?_
            go_big_op
            refine hK.out _ _ ?_ (fun hHeld2 => ?_)
            · exact hHeld.setCell (p := ⟨a2, 3, none⟩) (Nat.le_refl _) _
            clear hK K' hHeld
            have hHeld := hHeld2
            clear hHeld2
            (try simp only [List.getElem_toArray, List.getElem_cons_zero, List.getElem_cons_succ, Act.put, List.setIfInBounds_toArray, List.set_cons_zero, List.set_cons_succ])
            refine wpAnyH_done (by kernel_rfl) ?_ _
            refine NoPanic.normal ?_
            go_wp2_with fail
            go_roundw
            case rel =>
              refine ⟨k + 1, A3, c3, by omega, by go_num, ?_, O6.set 3 (.slice A3 (k + 1) c3), hb.trans hHeld, by have := hH.size; have := hbG.size; simp; omega⟩
              rw [HS.out]
              exact ownsRow_setCell_below hown' (by show a2 < _; omega) _
            case measure => simp [intOf]; omega
      · skip
        intro K' hK
        simp only [List.getElem_toArray, List.getElem_cons_zero, List.getElem_cons_succ]
        refine if_yes (by kernel_rfl) ?_
        go_big_op
        (go_at_call 14; refine (ins_any ⟨op, a, b, c', kk⟩ _).mono ?_; rintro e w2 ⟨rfl, hb1⟩)
        refine hK.out _ _ ?_ (fun hHeld2 => ?_)
        · exact hHeld.trans (hb1.mono (by have := hH.size; omega))
        clear hK K' hHeld
        have hHeld := hHeld2
        clear hHeld2
        (try simp only [List.getElem_toArray, List.getElem_cons_zero, List.getElem_cons_succ, Act.put, List.setIfInBounds_toArray, List.set_cons_zero, List.set_cons_succ])
        have hH := keep_below hb1 hH
        have o3 := keep_cell hb1 o3
        clear hb1
        refine wpAnyH_ready (rs := [1, 8]) (by kernel_rfl) (by simp) ?_
        refine AllReadyH.cons (i := 1) (by rfl) ?_ (AllReadyH.cons (i := 8) (by rfl) ?_ (AllReadyH.nil))
        · skip
          intro K' hK
          simp only [List.getElem_toArray, List.getElem_cons_zero, List.getElem_cons_succ]
          refine if_yes (by kernel_rfl) ?_
          go_big_op
          refine hK.out _ _ ?_ (fun hHeld2 => ?_)
          · exact hHeld
          clear hK K' hHeld
          have hHeld := hHeld2
          clear hHeld2
          (try simp only [List.getElem_toArray, List.getElem_cons_zero, List.getElem_cons_succ, Act.put, List.setIfInBounds_toArray, List.set_cons_zero, List.set_cons_succ])
          refine wpAnyH_ready (rs := [8]) (by kernel_rfl) (by simp) ?_
          refine AllReadyH.cons (i := 8) (by rfl) ?_ (AllReadyH.nil)
          · skip
            intro K' hK
            simp only [List.getElem_toArray, List.getElem_cons_zero, List.getElem_cons_succ]
            refine if_yes (by kernel_rfl) ?_
            go_big_op
            refine hK.out _ _ ?_ (fun hHeld2 => ?_)
            · exact hHeld.alloc (by have := hH.size; omega) _
            clear hK K' hHeld
            have hHeld := hHeld2
            clear hHeld2
            (try simp only [List.getElem_toArray, List.getElem_cons_zero, List.getElem_cons_succ, Act.put, List.setIfInBounds_toArray, List.set_cons_zero, List.set_cons_succ])
            have hfr := Reads.freshAs w2 #[.int .i64 op, .int .i64 a, .int .i64 b, .int .i64 c', .int .u64 (U kk)] 53 5 1 [.int .i64 op, .int .i64 a, .int .i64 b, .int .i64 c', .int .u64 (U kk)] rfl rfl (by decide)
            have o3 := (keep_cell (keep_alloc (Below.refl w2.heap.size w2) (.cells #[.int .i64 op, .int .i64 a, .int .i64 b, .int .i64 c', .int .u64 (U kk)] 53)) o3)
            have hH := keep_alloc hH (.cells #[.int .i64 op, .int .i64 a, .int .i64 b, .int .i64 c', .int .u64 (U kk)] 53)
            refine wpAnyH_ready (rs := [9]) (by kernel_rfl) (by simp) ?_
            refine AllReadyH.cons (i := 9) (by rfl) ?_ AllReadyH.nil
            have hownC := own_keep hown hH
            intro K' hK
            refine step_app rfl _ _ _ (by rfl) tyMIns (by rfl) hownC (by rfl) hfr (by simp [Value.oneCell']) q1' q2' (by have := hH.size; omega) ?_; intro v' w6 hown' hbG; obtain ⟨A3, c3, rfl, -⟩ := Reads.own hown'
            refine hK.out _ _ ?_ (fun hHeld2 => ?_)
            · exact hHeld.trans (hbG.mono (by omega))
            clear hK K' hHeld
            have hHeld := hHeld2
            clear hHeld2
            (try simp only [List.getElem_toArray, List.getElem_cons_zero, List.getElem_cons_succ, Act.put, List.setIfInBounds_toArray, List.set_cons_zero, List.set_cons_succ])
            have O6 := (O.below hH).belowB hbG (by omega)
            have o6 := O6.cell 3 _ rfl
            have e6 := O6.free
            refine wpAnyH_take (i := 10) (v := ?_) rfl (by kernel_rfl) (by kernel_rfl) (by kernel_rfl) (fun _ _ _ h => h) (Or.inl ⟨by rfl, ?_⟩) (by assumption) ?_
            rotate_left
            · intro wq hSw; clear hSw; go_simp; (try with_reducible rfl)
            (try simp only [List.getElem_toArray, List.getElem_cons_zero, List.getElem_cons_succ, Act.put, List.setIfInBounds_toArray, List.set_cons_zero, List.set_cons_succ])
            refine wpAnyH_ready (rs := [11]) (by kernel_rfl) (by simp) ?_
            refine AllReadyH.cons (i := 11) (by rfl) ?_ AllReadyH.nil
            intro K' hK
            simp only [List.getElem_toArray, List.getElem_cons_zero, List.getElem_cons_succ]
            refine if_yes (by kernel_rfl) ?_
            go_big_op
            refine hK.out _ _ ?_ (fun hHeld2 => ?_)
            · exact hHeld.setCell (p := ⟨a2, 3, none⟩) (Nat.le_refl _) _
            clear hK K' hHeld
            have hHeld := hHeld2
            clear hHeld2
            (try simp only [List.getElem_toArray, List.getElem_cons_zero, List.getElem_cons_succ, Act.put, List.setIfInBounds_toArray, List.set_cons_zero, List.set_cons_succ])
            refine wpAnyH_done (by kernel_rfl) ?_ _
            refine NoPanic.normal ?_
            go_wp2_with fail
            go_roundw
            case rel =>
              refine ⟨k + 1, A3, c3, by omega, by go_num, ?_, O6.set 3 (.slice A3 (k + 1) c3), hb.trans hHeld, by have := hH.size; have := hbG.size; simp; omega⟩
              rw [HS.out]
              exact ownsRow_setCell_below hown' (by show a2 < _; omega) _
            case measure => simp [intOf]; omega
        · skip
          intro K' hK
          simp only [List.getElem_toArray, List.getElem_cons_zero, List.getElem_cons_succ]
          refine if_yes (by kernel_rfl) ?_
          go_big_op
          refine hK.out _ _ ?_ (fun hHeld2 => ?_)
          · exact hHeld.alloc (by have := hH.size; omega) _
          clear hK K' hHeld
          have hHeld := hHeld2
          clear hHeld2
          (try simp only [List.getElem_toArray, List.getElem_cons_zero, List.getElem_cons_succ, Act.put, List.setIfInBounds_toArray, List.set_cons_zero, List.set_cons_succ])
          have hfr := Reads.freshAs w2 #[.int .i64 op, .int .i64 a, .int .i64 b, .int .i64 c', .int .u64 (U kk)] 53 5 1 [.int .i64 op, .int .i64 a, .int .i64 b, .int .i64 c', .int .u64 (U kk)] rfl rfl (by decide)
          have o3 := (keep_cell (keep_alloc (Below.refl w2.heap.size w2) (.cells #[.int .i64 op, .int .i64 a, .int .i64 b, .int .i64 c', .int .u64 (U kk)] 53)) o3)
          have hH := keep_alloc hH (.cells #[.int .i64 op, .int .i64 a, .int .i64 b, .int .i64 c', .int .u64 (U kk)] 53)
          refine wpAnyH_ready (rs := [1]) (by kernel_rfl) (by simp) ?_
          refine AllReadyH.cons (i := 1) (by rfl) ?_ (AllReadyH.nil)
          · skip
            intro K' hK
            simp only [List.getElem_toArray, List.getElem_cons_zero, List.getElem_cons_succ]
            refine if_yes (by kernel_rfl) ?_
            go_big_op
            refine hK.out _ _ ?_ (fun hHeld2 => ?_)
            · exact hHeld
            clear hK K' hHeld
            have hHeld := hHeld2
            clear hHeld2
            (try simp only [List.getElem_toArray, List.getElem_cons_zero, List.getElem_cons_succ, Act.put, List.setIfInBounds_toArray, List.set_cons_zero, List.set_cons_succ])
            refine wpAnyH_ready (rs := [9]) (by kernel_rfl) (by simp) ?_
            refine AllReadyH.cons (i := 9) (by rfl) ?_ AllReadyH.nil
            have hownC := own_keep hown hH
            intro K' hK
            refine step_app rfl _ _ _ (by rfl) tyMIns (by rfl) hownC (by rfl) hfr (by simp [Value.oneCell']) q1' q2' (by have := hH.size; omega) ?_; intro v' w6 hown' hbG; obtain ⟨A3, c3, rfl, -⟩ := Reads.own hown'
            refine hK.out _ _ ?_ (fun hHeld2 => ?_)
            · exact hHeld.trans (hbG.mono (by omega))
            clear hK K' hHeld
            have hHeld := hHeld2
            clear hHeld2
            (try simp only [List.getElem_toArray, List.getElem_cons_zero, List.getElem_cons_succ, Act.put, List.setIfInBounds_toArray, List.set_cons_zero, List.set_cons_succ])
            have O6 := (O.below hH).belowB hbG (by omega)
            have o6 := O6.cell 3 _ rfl
            have e6 := O6.free
            refine wpAnyH_take (i := 10) (v := ?_) rfl (by kernel_rfl) (by kernel_rfl) (by kernel_rfl) (fun _ _ _ h => h) (Or.inl ⟨by rfl, ?_⟩) (by assumption) ?_
            rotate_left
            · intro wq hSw; clear hSw; go_simp; (try with_reducible rfl)
            (try simp only [List.getElem_toArray, List.getElem_cons_zero, List.getElem_cons_succ, Act.put, List.setIfInBounds_toArray, List.set_cons_zero, List.set_cons_succ])
            refine wpAnyH_ready (rs := [11]) (by kernel_rfl) (by simp) ?_
            refine AllReadyH.cons (i := 11) (by rfl) ?_ AllReadyH.nil
            intro K' hK
            simp only [List.getElem_toArray, List.getElem_cons_zero, List.getElem_cons_succ]
            refine if_yes (by kernel_rfl) ?_
            go_big_op
            refine hK.out _ _ ?_ (fun hHeld2 => ?_)
            · exact hHeld.setCell (p := ⟨a2, 3, none⟩) (Nat.le_refl _) _
            clear hK K' hHeld
            have hHeld := hHeld2
            clear hHeld2
            (try simp only [List.getElem_toArray, List.getElem_cons_zero, List.getElem_cons_succ, Act.put, List.setIfInBounds_toArray, List.set_cons_zero, List.set_cons_succ])
            refine wpAnyH_done (by kernel_rfl) ?_ _
            refine NoPanic.normal ?_
            go_wp2_with fail
            go_roundw
            case rel =>
              refine ⟨k + 1, A3, c3, by omega, by go_num, ?_, O6.set 3 (.slice A3 (k + 1) c3), hb.trans hHeld, by have := hH.size; have := hbG.size; simp; omega⟩
              rw [HS.out]
              exact ownsRow_setCell_below hown' (by show a2 < _; omega) _
            case measure => simp [intOf]; omega
    · have hkm : k = m := by omega
      subst hkm
      have hd : decide ((k : Int) < (k : Int)) = false := by simp
      have hd2 : decide (k < k) = false := by simp
      rw [List.take_of_length_le (by rw [HL.out]; omega)] at hown
      have R1 := R0.belowB hb (by omega)
      have r0 := R1.cell 0 _ rfl
      have r1 := R1.cell 1 _ rfl
      have r2 := R1.cell 2 _ rfl
      have r3 := R1.cell 3 _ rfl
      have fr := R1.free
      have o0 := O.cell 0 _ rfl
      have o1 := O.cell 1 _ rfl
      have o2 := O.cell 2 _ rfl
      have o3 := O.cell 3 _ rfl
      have hBr := hB0.trans (hb.mono (show g ≤ a2 by omega))
      obtain ⟨A3, c3, e3, hr3⟩ := Reads.own hown
      injection e3 with x1 x2 x3
      subst x1 x3
      have hr4 := hr3.below (B := wr.heap.size) (w' := wr) (Below.refl _ _)
      have hown2 := ownsRow_setCell_below (ownsRow_setCell_below (ownsRow_setCell_below (ownsRow_setCell_below hown (a := ⟨g + 1, 0, none⟩) (by show g + 1 < _; omega) (.int .i64 p)) (a := ⟨g + 1, 1, none⟩) (by show g + 1 < _; omega) (.slice A n c)) (a := ⟨g + 1, 2, none⟩) (by show g + 1 < _; omega) (.int .i64 r)) (a := ⟨g + 1, 3, none⟩) (by show g + 1 < _; omega) (.slice A' k e')
      obtain ⟨A4, c4, e4, hr5⟩ := Reads.own hown2
      injection e4 with x1 x2 x3
      subst x1 x3
      have HR := Lib.hid hr5
      have HOW := Lib.hid (show ∀ b off, A' = some ⟨b, off, none⟩ → w.heap.size ≤ b from fun b off e => by have := (hown.lt b (by rw [e]; rfl)).1; have := HG.out; omega)
      clear hown hown2 hr3 hr4 hr5
      go_wp2_with fail
      refine bodyPost_ret (v := fnV p A n c r A' k e') (by simp [results, Tryd.results13, go_sem, r0, r1, r2, r3]) rfl ?_
      exact ⟨A', e', by rw [HL.out], by rw [HL.out]; exact HR.out, by rw [HG.out]; exact (((hBr.setCell (p := ⟨g + 1, 0, none⟩) (Nat.le_succ g) _).setCell (p := ⟨g + 1, 1, none⟩) (Nat.le_succ g) _).setCell (p := ⟨g + 1, 2, none⟩) (Nat.le_succ g) _).setCell (p := ⟨g + 1, 3, none⟩) (Nat.le_succ g) _, HOW.out⟩
theorem function_any (p : Int) (A : Option Addr) (n c : Nat) (r : Int) (B : Option Addr) (m d : Nat) (ins : List NI) (w : World) (h : Reads w w.heap.size 5 B m d (ins.flatMap insCells)) (hm : m ≤ 1000000) :
    Calls Tryd.prog 13 #[fnV p A n c r B m d] w (RetFn w p A n c r ins) :=
  (function_own p A n c r B m d ins w h hm).mono fun _ _ ⟨B, d, h1, h2, h3, _⟩ => ⟨B, d, h1, h2, h3⟩
end Go.Proofs.YtnnchinpmnpfiaaDoor
/- The program's numbered and suits; Kinds at Return. -/
namespace Go.Proofs.YtnnchinpmnpfiaaDoor
open Go.ChangeShapes Go.WideShapes Go.RowKit Words

abbrev prV (S : Option Addr) (ns cs : Nat) (F : Option Addr) (nf cf : Nat) (N : Option Addr) (nn cn : Nat) : Value := .agg #[.slice S ns cs, .slice F nf cf, .slice N nn cn]
def numB (x : NI) : Bool := byteB x.a && (byteB x.b && byteB x.c)
theorem numbered_any (x : NI) (w : World) : Calls Tryd.prog 64 #[insV x] w fun e w' => e = .returned (.bool (numB x)) ∧ Below w.heap.size w w' := by
  obtain ⟨op, a, b, c, k⟩ := x
  have hB : Below w.heap.size w ((w.alloc (.cells #[.int .i64 op, .int .i64 a, .int .i64 b, .int .i64 c, .int .u64 (U k)] 53)).alloc (.cells #[.int .i64 a, .int .i64 b, .int .i64 c] 3)) := keep_alloc (keep_alloc (Below.refl _ _) _) _
  have hr := Reads.freshAt (w.alloc (.cells #[.int .i64 op, .int .i64 a, .int .i64 b, .int .i64 c, .int .u64 (U k)] 53)) #[.int .i64 a, .int .i64 b, .int .i64 c] 3 1 3 (([a, b, c] : List Int).flatMap intCells) (w.heap.size + 1) (by simp) rfl rfl (by decide)
  go_enter Tryd.func64, Tryd.ntmps64
  go_wp2_with fail
  refine (allB_any _ 3 3 [a, b, c] _ hr (by omega)).mono ?_
  rintro e w2 ⟨rfl, hb2⟩
  go_wp2_with fail
  go_ret
  exact ⟨rfl, keep_below hb2 hB⟩
/-- locals and kinds come back -/
def RetK (w : World) (ls ks : List Int) (ok : Bool) (e : Ending) (w' : World) : Prop :=
  ∃ A c B d, e = .returned (.tuple #[.slice A ls.length c, .slice B ks.length d, .bool ok]) ∧ Reads w' w'.heap.size 1 A ls.length c (ls.flatMap intCells) ∧ Reads w' w'.heap.size 1 B ks.length d (ks.flatMap intCells) ∧ Below w.heap.size w w'
/-- do the locals have these kinds? -/
def suitF (locs : List Int) : List Int → List Int → Bool
  | n :: r, k :: s => decide (locs[n.toNat]? = some k) && suitF locs r s
  | _, _ => true
theorem suitF_no {locs : List Int} : ∀ {ls ks : List Int} {i : Nat} {n k : Int}, ls[i]? = some n → ks[i]? = some k → locs[n.toNat]? ≠ some k → suitF locs ls ks = false
  | x :: r, y :: s, 0, n, k, h1, h2, h => by
    cases h1; cases h2
    unfold suitF
    rw [decide_eq_false h]; rfl
  | x :: r, y :: s, i + 1, n, k, h1, h2, h => by
    unfold suitF
    rw [suitF_no (ls := r) (ks := s) (i := i) (by simpa using h1) (by simpa using h2) h, Bool.and_false]
theorem suitF_yes {locs : List Int} : ∀ {ls ks : List Int}, (∀ (i : Nat) (n k : Int), ls[i]? = some n → ks[i]? = some k → locs[n.toNat]? = some k) → suitF locs ls ks = true
  | [], _, _ => by unfold suitF; rfl
  | _ :: _, [], _ => by unfold suitF; rfl
  | x :: r, y :: s, h => by
    unfold suitF
    rw [decide_eq_true (h 0 x y rfl rfl), suitF_yes (ls := r) (ks := s) (fun i n k h1 h2 => h (i + 1) n k (by simpa using h1) (by simpa using h2))]; rfl

set_option linter.unusedSimpArgs false in
set_option maxRecDepth 100000 in
set_option maxHeartbeats 4000000 in
theorem suits_any (S : Option Addr) (ns cs : Nat) (F : Option Addr) (nf cf : Nat) (N : Option Addr) (nn cn : Nat) (p : Int) (A : Option Addr) (n c : Nat) (r : Int) (B : Option Addr) (m d : Nat) (x : NI) (locs ls ks : List Int) (ok : Bool) (w : World)
    (hA : Reads w w.heap.size 1 A n c (locs.flatMap intCells)) (hlk : ls.length = ks.length) (hll : ls.length ≤ 1000)
    (hneg : numB x = true → ok = true → ∀ z ∈ ls, 0 ≤ z)
    (hK : ∀ wq, Below w.heap.size w wq → Calls Tryd.prog 12 #[prV S ns cs F nf cf N nn cn, fnV p A n c r B m d, insV x] wq (RetK wq ls ks ok)) :
    Calls Tryd.prog 50 #[prV S ns cs F nf cf N nn cn, fnV p A n c r B m d, insV x] w fun e w' => e = .returned (.bool (ok && (numB x && suitF locs ls ks))) ∧ Below w.heap.size w w' := by
  have hlen := hA.length (f := intCells) (fun _ => rfl) (by omega)
  have HL := Lib.hid hlen
  obtain ⟨op, a, b, c', k⟩ := x
  have hB0 : Below w.heap.size w (((w.alloc (.cells #[.slice S ns cs, .slice F nf cf, .slice N nn cn] 37)).alloc (.cells #[.int .i64 p, .slice A n c, .int .i64 r, .slice B m d] 49)).alloc (.cells #[.int .i64 op, .int .i64 a, .int .i64 b, .int .i64 c', .int .u64 (U k)] 53)) := keep_alloc (keep_alloc (keep_alloc (Below.refl _ _) _) _) _
  have X0 := ((Blk.new w #[.slice S ns cs, .slice F nf cf, .slice N nn cn] 37).alloc (.cells #[.int .i64 p, .slice A n c, .int .i64 r, .slice B m d] 49)).alloc (.cells #[.int .i64 op, .int .i64 a, .int .i64 b, .int .i64 c', .int .u64 (U k)] 53)
  have X1 := (Blk.newAt (w.alloc (.cells #[.slice S ns cs, .slice F nf cf, .slice N nn cn] 37)) #[.int .i64 p, .slice A n c, .int .i64 r, .slice B m d] 49 (w.heap.size + 1) (by simp)).alloc (.cells #[.int .i64 op, .int .i64 a, .int .i64 b, .int .i64 c', .int .u64 (U k)] 53)
  have X2 := Blk.newAt ((w.alloc (.cells #[.slice S ns cs, .slice F nf cf, .slice N nn cn] 37)).alloc (.cells #[.int .i64 p, .slice A n c, .int .i64 r, .slice B m d] 49)) #[.int .i64 op, .int .i64 a, .int .i64 b, .int .i64 c', .int .u64 (U k)] 53 (w.heap.size + 1 + 1) (by simp)
  have HLK := Lib.hid hlk
  clear hlen hlk
  go_enter Tryd.func50, Tryd.ntmps50
  go_wp2_with fail
  refine (hK _ hB0).mono ?_
  rintro e w2 ⟨A2, c2, B2, d2, rfl, hr1, hr2, hb2⟩
  have hW2 := keep_below hb2 hB0
  have Y1 := X1.below hb2
  have Y2 := X2.below hb2
  obtain ⟨g, hg⟩ : ∃ g, w.heap.size + 1 = g := ⟨_, rfl⟩
  rw [hg] at Y1 Y2 ⊢
  have x0 := Y2.cell 0 _ rfl
  have x1 := Y2.cell 1 _ rfl
  have x2 := Y2.cell 2 _ rfl
  have x3 := Y2.cell 3 _ rfl
  have x4 := Y2.cell 4 _ rfl
  clear hg X0 X1 X2 hb2 hB0 hK
  cases ok with
  | false =>
    go_wp2_with fail
    go_ret
    exact ⟨rfl, hW2⟩
  | true =>
    go_wp2_with fail
    refine (numbered_any ⟨op, a, b, c', k⟩ _).mono ?_
    cases hnum : numB ⟨op, a, b, c', k⟩ with
    | false =>
      have HN := Lib.hid hnum
      clear hnum
      rintro e w3 ⟨rfl, hb3⟩
      clear x0 x1 x2 x3 x4
      go_wp2_with fail
      go_ret
      exact ⟨by rw [HN.out]; rfl, keep_below hb3 hW2⟩
    | true =>
      have hnz := hneg hnum (by trivial)
      have HNZ := Lib.hid hnz
      have HN := Lib.hid hnum
      clear hnum hnz hneg
      rintro e w3 ⟨rfl, hb3⟩
      have hW3 := keep_below hb3 hW2
      have Z1 := Y1.below hb3
      have hs1 := hr1.belowU hb3
      have hs2 := hr2.belowU hb3
      have hAA := hA.belowU hW3
      clear x0 x1 x2 x3 x4 hb3 hr1 hr2 Y1 Y2 hW2 hA
      obtain ⟨q, hq⟩ : ∃ q, ls.length = q := ⟨_, rfl⟩
      have hq2 : ks.length = q := by have := HLK.out; omega
      rw [hq] at hs1 hll
      rw [hq2] at hs2
      rw [hq, hq2]
      have HQ := Lib.hid hq
      have HQ2 := Lib.hid hq2
      clear hq hq2
      go_wp2_with fail
      go_loopw [29] (fun x wq => ∃ i : Nat, i ≤ q ∧ x = .int .i64 i ∧ (∀ j : Nat, j < i → ∀ (z y : Int), ls[j]? = some z → ks[j]? = some y → locs[z.toNat]? = some y) ∧ Below w3.heap.size w3 wq) (fun x _ => q - (intOf x).toNat)
      case atStart => exact ⟨0, Nat.zero_le _, rfl, (fun j hj => by omega), Below.refl _ _⟩
      case round =>
        obtain ⟨i, hi, rfl, hst, hb⟩ := hrel
        have HST := Lib.hid hst
        clear hst
        have Zr := Z1.below hb
        have f1 := Zr.cell 1 _ rfl
        by_cases hlt : i < q
        · obtain ⟨b1, o1, z, rfl, hbb1, hz, hc1⟩ := (hs1.belowU hb).elem (f := intCells) (fun _ => rfl) (by omega) hlt
          obtain ⟨b2, o2, y, rfl, hbb2, hy, hc2⟩ := (hs2.belowU hb).elem (f := intCells) (fun _ => rfl) (by omega) hlt
          have d0 := hc1 0 _ rfl
          have e0 := hc2 0 _ rfl
          rw [Nat.mul_one, Nat.add_zero] at d0 e0
          have hz0 := HNZ.out z (List.mem_of_getElem? hz)
          obtain ⟨zn, rfl⟩ : ∃ zn : Nat, z = zn := ⟨z.toNat, by omega⟩
          have HZ := Lib.hid hz
          have HY := Lib.hid hy
          have hk0 : (0 : Int) ≤ (i : Int) := by omega
          have hk1 : (i : Int) < (q : Int) := by omega
          have hd : decide ((i : Int) < (q : Int)) = true := decide_eq_true hk1
          have hd2 : decide (i < q) = true := decide_eq_true hlt
          have hw : IntKind.i64.wrap ((i : Int) + 1) = (i : Int) + 1 := IntWalk.i64_in _ (by omega)
          clear hz hy hc1 hc2 hz0
          by_cases hzn : zn < n
          · obtain ⟨b3, o3, u, rfl, hbb3, hu, hc3⟩ := (hAA.belowU hb).elem (f := intCells) (fun _ => rfl) (by omega) hzn
            have u0 := hc3 0 _ rfl
            rw [Nat.mul_one, Nat.add_zero] at u0
            have HU := Lib.hid hu
            have hz1 : decide ((n : Int) ≤ (zn : Int)) = false := decide_eq_false (by omega)
            have hz2 : decide (n ≤ zn) = false := decide_eq_false (by omega)
            have hz3 : (0 : Int) ≤ (zn : Int) := by omega
            have hz4 : (zn : Int) < (n : Int) := by omega
            obtain ⟨ne, hne⟩ : ∃ ne, (u != y) = ne := ⟨_, rfl⟩
            have HNE := Lib.hid hne
            clear hu hc3
            go_upto_region 7 with fail
            have F1 := Lag.cell f1
            have E0 := Lag.cell e0
            have U0 := Lag.cell u0
            clear f1 d0 e0 u0
            refine wp_region_lag (by kernel_rfl) (by kernel_rfl) ?_
            repeat (go_big_quiet_step (fail))
            refine wpQuiet_nil ?_
            rintro w5 ⟨uu, hu⟩
            have hb5 := keep_below (hu ▸ uu.h : Below wr.heap.size wr w5) hb
            clear hu uu F1 E0 U0 hne
            cases ne with
            | true =>
              have HV := Lib.hid (suitF_no (locs := locs) HZ.out HY.out (by rw [Int.toNat_natCast, HU.out]; intro e; have := HNE.out; rw [Option.some.inj e] at this; simp at this))
              go_wp2_with fail
              go_ret
              exact ⟨by rw [HN.out, HV.out]; rfl, keep_below hb5 hW3⟩
            | false =>
              go_wp2_with fail
              go_roundw
              case rel =>
                refine ⟨i + 1, by omega, by go_num, fun j hj z y hz hy => ?_, hb5⟩
                by_cases e : j < i
                · exact HST.out j e z y hz hy
                · obtain rfl : j = i := by omega
                  have e1 := Option.some.inj (hz.symm.trans HZ.out)
                  have e2 := Option.some.inj (hy.symm.trans HY.out)
                  subst e1 e2
                  rw [Int.toNat_natCast, HU.out]
                  have := HNE.out
                  simp at this
                  rw [this]
              case measure => simp [intOf]; omega
          · have hz1 : decide ((n : Int) ≤ (zn : Int)) = true := decide_eq_true (by omega)
            have hz2 : decide (n ≤ zn) = true := decide_eq_true (by omega)
            have HV := Lib.hid (suitF_no (locs := locs) HZ.out HY.out (by rw [Int.toNat_natCast, List.getElem?_eq_none (by rw [HL.out]; omega)]; exact fun e => by cases e))
            go_upto_region 7 with fail
            have F1 := Lag.cell f1
            clear f1 d0 e0
            refine wp_region_lag (by kernel_rfl) (by kernel_rfl) ?_
            repeat (go_big_quiet_step (fail))
            refine wpQuiet_nil ?_
            rintro w5 ⟨uu, hu⟩
            have hb5 := keep_below (hu ▸ uu.h : Below wr.heap.size wr w5) hb
            clear hu uu F1
            go_wp2_with fail
            go_ret
            exact ⟨by rw [HN.out, HV.out]; rfl, keep_below hb5 hW3⟩
        · have hiq : i = q := by omega
          subst hiq
          have hd : decide ((i : Int) < (i : Int)) = false := by simp
          have hd2 : decide (i < i) = false := by simp
          have HV := Lib.hid (suitF_yes (locs := locs) (ls := ls) (ks := ks) (fun j z y hz hy => HST.out j (by have := (List.getElem?_eq_some_iff.1 hz).1; have := HQ.out; omega) z y hz hy))
          go_wp2_with fail
          go_ret
          exact ⟨by rw [HN.out, HV.out]; rfl, keep_below hb hW3⟩
end Go.Proofs.YtnnchinpmnpfiaaDoor
/- Kinds at Return; counting over instructions by a closure. -/
namespace Go.Proofs.YtnnchinpmnpfiaaDoor
open Go.ChangeShapes Go.WideShapes Go.RowKit Words

set_option linter.unusedSimpArgs false in
set_option maxRecDepth 100000 in
set_option maxHeartbeats 4000000 in
theorem kinds_ret (S : Option Addr) (ns cs : Nat) (F : Option Addr) (nf cf : Nat) (N : Option Addr) (nn cn : Nat) (p : Int) (A : Option Addr) (n c : Nat) (r : Int) (B : Option Addr) (m d : Nat) (a b c' : Int) (k : BitVec 64) (w : World) :
    Calls Tryd.prog 12 #[prV S ns cs F nf cf N nn cn, fnV p A n c r B m d, insV ⟨25, a, b, c', k⟩] w (RetK w [a] [r] true) := by
  have hB0 : Below w.heap.size w (((w.alloc (.cells #[.slice S ns cs, .slice F nf cf, .slice N nn cn] 37)).alloc (.cells #[.int .i64 p, .slice A n c, .int .i64 r, .slice B m d] 49)).alloc (.cells #[.int .i64 25, .int .i64 a, .int .i64 b, .int .i64 c', .int .u64 (U k)] 53)) := keep_alloc (keep_alloc (keep_alloc (Below.refl _ _) _) _) _
  have X1 := (Blk.newAt (w.alloc (.cells #[.slice S ns cs, .slice F nf cf, .slice N nn cn] 37)) #[.int .i64 p, .slice A n c, .int .i64 r, .slice B m d] 49 (w.heap.size + 1) (by simp)).alloc (.cells #[.int .i64 25, .int .i64 a, .int .i64 b, .int .i64 c', .int .u64 (U k)] 53)
  have X2 := Blk.newAt ((w.alloc (.cells #[.slice S ns cs, .slice F nf cf, .slice N nn cn] 37)).alloc (.cells #[.int .i64 p, .slice A n c, .int .i64 r, .slice B m d] 49)) #[.int .i64 25, .int .i64 a, .int .i64 b, .int .i64 c', .int .u64 (U k)] 53 (w.heap.size + 1 + 1) (by simp)
  go_enter Tryd.func12, Tryd.ntmps12
  go_upto_region 6 with fail
  obtain ⟨w1, hw1⟩ : ∃ w1, (((w.alloc (.cells #[.slice S ns cs, .slice F nf cf, .slice N nn cn] 37)).alloc (.cells #[.int .i64 p, .slice A n c, .int .i64 r, .slice B m d] 49)).alloc (.cells #[.int .i64 25, .int .i64 a, .int .i64 b, .int .i64 c', .int .u64 (U k)] 53)) = w1 := ⟨_, rfl⟩
  rw [hw1] at hB0 X1 X2 ⊢
  have L1 : ∀ u, Below w1.heap.size w1 u → u.cell? ⟨w.heap.size + 1 + 1, 1, none⟩ = some (.int .i64 a) := fun u hu => (X2.below hu).cell 1 _ rfl
  have L2 : ∀ u, Below w1.heap.size w1 u → u.cell? ⟨w.heap.size + 1, 2, none⟩ = some (.int .i64 r) := fun u hu => (X1.below hu).cell 2 _ rfl
  clear hw1
  go_region_held3 (fun w' => Below w1.heap.size w1 w') (first | exact (Below.refl _ _).drew | exact keep_alloc (by assumption) _) (fail)
  · go_wp2_with fail
    refine bodyPost_ret (v := .tuple #[.slice (some ⟨w1.heap.size, 0, none⟩) 1 1, .slice (some ⟨w1.heap.size + 1, 0, none⟩) 1 1, .bool true]) (by simp [results, Tryd.results12]) rfl ?_
    have R1 := Reads.freshAt (World.drew w1) #[.int .i64 a] 3 1 1 (([a] : List Int).flatMap intCells) w1.heap.size rfl rfl rfl (by decide)
    have R2 := Reads.freshAt ((World.drew w1).alloc (.cells #[.int .i64 a] 3)) #[.int .i64 r] 3 1 1 (([r] : List Int).flatMap intCells) (w1.heap.size + 1) (by simp) rfl rfl (by decide)
    exact ⟨_, _, _, _, rfl, R1.belowU (keep_alloc (Below.refl _ _) _), R2, keep_alloc (keep_alloc hB0.drew _) _⟩
  · go_wp2_with fail
    refine bodyPost_ret (v := .tuple #[.slice (some ⟨w1.heap.size + 1, 0, none⟩) 1 1, .slice (some ⟨w1.heap.size, 0, none⟩) 1 1, .bool true]) (by simp [results, Tryd.results12]) rfl ?_
    have R1 := Reads.freshAt (World.drew w1) #[.int .i64 r] 3 1 1 (([r] : List Int).flatMap intCells) w1.heap.size rfl rfl rfl (by decide)
    have R2 := Reads.freshAt ((World.drew w1).alloc (.cells #[.int .i64 r] 3)) #[.int .i64 a] 3 1 1 (([a] : List Int).flatMap intCells) (w1.heap.size + 1) (by simp) rfl rfl (by decide)
    exact ⟨_, _, _, _, rfl, R2, R1.belowU (keep_alloc (Below.refl _ _) _), keep_alloc (keep_alloc hB0.drew _) _⟩
set_option maxHeartbeats 1000000 in
theorem cntI_any (gp gf : Nat) (A : Option Addr) (n c : Nat) (l : List NI) (sb : NI → Bool) (w : World) (h : Reads w w.heap.size 5 A n c (l.flatMap insCells))
    (hS : ∀ x ∈ l, ∀ wq, Below w.heap.size w wq → Calls Tryd.prog 49 #[insV x, .pointer (some ⟨gp, 0, none⟩), .pointer (some ⟨gf, 0, none⟩)] wq fun e w' => e = .returned (.bool (sb x)) ∧ Below wq.heap.size wq w') (hn : n ≤ 1000000) :
    Calls Tryd.prog 63 #[.slice A n c, .func (.func 49) #[] #[.pointer (some ⟨gp, 0, none⟩), .pointer (some ⟨gf, 0, none⟩)]] w fun e w' => e = .returned (.int .i64 ((l.filter sb).length : Nat)) ∧ Below w.heap.size w w' := by
  have hlen := h.length insCells_len (by omega)
  have HL := Lib.hid hlen
  clear hlen
  go_enter Tryd.func63, Tryd.ntmps63
  go_wp2_with fail
  go_loopw [5, 10] (fun s x wq => ∃ k q : Nat, k ≤ n ∧ q ≤ k ∧ x = .int .i64 k ∧ s = .int .i64 q ∧ q = ((l.take k).filter sb).length ∧ Below w.heap.size w wq) (fun _ x _ => n - (intOf x).toNat)
  case atStart => exact ⟨0, 0, Nat.zero_le _, Nat.le_refl _, rfl, rfl, rfl, Below.refl _ _⟩
  case round =>
    obtain ⟨k, q, hk, hqk, rfl, rfl, hq, hb⟩ := hrel
    have HQ := Lib.hid hq
    clear hq
    by_cases hlt : k < n
    · obtain ⟨b0, off, x, rfl, hbb, hx, hc⟩ := (h.belowU hb).elem insCells_len (by omega) hlt
      have HX := Lib.hid hx
      have HC := Lib.hid (hS x (List.mem_of_getElem? hx))
      obtain ⟨op, a, b, c', kk⟩ := x
      have d0 := hc 0 _ rfl
      have d1 := hc 1 _ rfl
      have d2 := hc 2 _ rfl
      have d3 := hc 3 _ rfl
      have d4 := hc 4 _ rfl
      rw [Nat.add_zero] at d0
      dsimp only at d0 d1 d2 d3 d4
      have hk0 : (0 : Int) ≤ (k : Int) := by omega
      have hk1 : (k : Int) < (n : Int) := by omega
      have hd : decide ((k : Int) < (n : Int)) = true := decide_eq_true hk1
      have hd2 : decide (k < n) = true := decide_eq_true hlt
      have hw : IntKind.i64.wrap ((k : Int) + 1) = (k : Int) + 1 := IntWalk.i64_in _ (by omega)
      have hw2 : IntKind.i64.wrap ((q : Int) + 1) = (q : Int) + 1 := IntWalk.i64_in _ (by omega)
      have HB := Lib.hid (keep_alloc hb (.cells #[.int .i64 op, .int .i64 a, .int .i64 b, .int .i64 c', .int .u64 (U kk)] 53))
      clear hc hx
      go_wp2_with fail
      refine (HC.out _ HB.out).mono ?_
      cases hp : sb ⟨op, a, b, c', kk⟩ with
      | true =>
        have HP := Lib.hid hp
        clear hp d0
        rintro e w2 ⟨rfl, hb2⟩
        have HB2 := Lib.hid (keep_below hb2 HB.out)
        clear hb2
        go_wp2_with fail
        go_roundw
        case rel => exact ⟨k + 1, q + 1, by omega, by omega, by go_num, by go_num, by rw [take_nx' HX.out, List.filter_append, List.length_append, ← HQ.out, List.filter_cons_of_pos HP.out]; rfl, HB2.out⟩
        case measure => simp [intOf]; omega
      | false =>
        have HP := Lib.hid hp
        clear hp d0
        rintro e w2 ⟨rfl, hb2⟩
        have HB2 := Lib.hid (keep_below hb2 HB.out)
        clear hb2
        go_wp2_with fail
        go_roundw
        case rel => exact ⟨k + 1, q, by omega, by omega, by go_num, rfl, by rw [take_nx' HX.out, List.filter_append, List.length_append, ← HQ.out, List.filter_cons_of_neg (by rw [HP.out]; decide)]; rfl, HB2.out⟩
        case measure => simp [intOf]; omega
    · have hkn : k = n := by omega
      subst hkn
      have hd : decide ((k : Int) < (k : Int)) = false := by simp
      have hd2 : decide (k < k) = false := by simp
      have HV := Lib.hid (show q = (l.filter sb).length from by rw [HQ.out, List.take_of_length_le (by rw [HL.out]; omega)])
      go_wp2_with fail
      go_ret
      exact ⟨by rw [← HV.out]; rfl, hb⟩
theorem allI_any (gp gf : Nat) (A : Option Addr) (n c : Nat) (l : List NI) (sb : NI → Bool) (w : World) (h : Reads w w.heap.size 5 A n c (l.flatMap insCells))
    (hS : ∀ x ∈ l, ∀ wq, Below w.heap.size w wq → Calls Tryd.prog 49 #[insV x, .pointer (some ⟨gp, 0, none⟩), .pointer (some ⟨gf, 0, none⟩)] wq fun e w' => e = .returned (.bool (sb x)) ∧ Below wq.heap.size wq w') (hn : n ≤ 1000000) :
    Calls Tryd.prog 48 #[.slice A n c, .func (.func 49) #[] #[.pointer (some ⟨gp, 0, none⟩), .pointer (some ⟨gf, 0, none⟩)]] w fun e w' => e = .returned (.bool (l.all sb)) ∧ Below w.heap.size w w' := by
  have hlen := h.length insCells_len (by omega)
  have HV := Lib.hid (show l.all sb = (((l.filter sb).length : Int) == (n : Int)) from by rw [← hlen]; exact all_count sb l)
  clear hlen
  go_enter Tryd.func48, Tryd.ntmps48
  go_wp2_with fail
  refine (cntI_any gp gf A n c l sb _ h hS hn).mono ?_
  rintro e w2 ⟨rfl, hb2⟩
  go_wp2_with fail
  go_ret
  exact ⟨by rw [HV.out]; rfl, hb2⟩
/-- a function's four cells -/
structure FC where
  p : Int
  A : Option Addr
  n : Nat
  c : Nat
  r : Int
  B : Option Addr
  m : Nat
  e : Nat
def fcCells (x : FC) : List Value := [.int .i64 x.p, .slice x.A x.n x.c, .int .i64 x.r, .slice x.B x.m x.e]
theorem fcCells_len (x : FC) : (fcCells x).length = 4 := rfl
abbrev fcV (x : FC) : Value := fnV x.p x.A x.n x.c x.r x.B x.m x.e
set_option maxHeartbeats 1000000 in
theorem cntG_any (gp : Nat) (A : Option Addr) (n c : Nat) (l : List FC) (sb : FC → Bool) (w : World) (h : Reads w w.heap.size 4 A n c (l.flatMap fcCells))
    (hS : ∀ x ∈ l, ∀ wq, Below w.heap.size w wq → Calls Tryd.prog 29 #[fcV x, .pointer (some ⟨gp, 0, none⟩)] wq fun e w' => e = .returned (.bool (sb x)) ∧ Below wq.heap.size wq w') (hn : n ≤ 1000000) :
    Calls Tryd.prog 46 #[.slice A n c, .func (.func 29) #[] #[.pointer (some ⟨gp, 0, none⟩)]] w fun e w' => e = .returned (.int .i64 ((l.filter sb).length : Nat)) ∧ Below w.heap.size w w' := by
  have hlen := h.length fcCells_len (by omega)
  have HL := Lib.hid hlen
  clear hlen
  go_enter Tryd.func46, Tryd.ntmps46
  go_wp2_with fail
  go_loopw [5, 10] (fun s x wq => ∃ k q : Nat, k ≤ n ∧ q ≤ k ∧ x = .int .i64 k ∧ s = .int .i64 q ∧ q = ((l.take k).filter sb).length ∧ Below w.heap.size w wq) (fun _ x _ => n - (intOf x).toNat)
  case atStart => exact ⟨0, 0, Nat.zero_le _, Nat.le_refl _, rfl, rfl, rfl, Below.refl _ _⟩
  case round =>
    obtain ⟨k, q, hk, hqk, rfl, rfl, hq, hb⟩ := hrel
    have HQ := Lib.hid hq
    clear hq
    by_cases hlt : k < n
    · obtain ⟨b0, off, x, rfl, hbb, hx, hc⟩ := (h.belowU hb).elem fcCells_len (by omega) hlt
      have HX := Lib.hid hx
      have HC := Lib.hid (hS x (List.mem_of_getElem? hx))
      obtain ⟨p, A1, n1, c1, r, B1, m1, e1⟩ := x
      have d0 := hc 0 _ rfl
      have d1 := hc 1 _ rfl
      have d2 := hc 2 _ rfl
      have d3 := hc 3 _ rfl
      rw [Nat.add_zero] at d0
      dsimp only at d0 d1 d2 d3
      have hk0 : (0 : Int) ≤ (k : Int) := by omega
      have hk1 : (k : Int) < (n : Int) := by omega
      have hd : decide ((k : Int) < (n : Int)) = true := decide_eq_true hk1
      have hd2 : decide (k < n) = true := decide_eq_true hlt
      have hw : IntKind.i64.wrap ((k : Int) + 1) = (k : Int) + 1 := IntWalk.i64_in _ (by omega)
      have hw2 : IntKind.i64.wrap ((q : Int) + 1) = (q : Int) + 1 := IntWalk.i64_in _ (by omega)
      have HB := Lib.hid (keep_alloc hb (.cells #[.int .i64 p, .slice A1 n1 c1, .int .i64 r, .slice B1 m1 e1] 49))
      clear hc hx
      go_wp2_with fail
      refine (HC.out _ HB.out).mono ?_
      cases hp : sb ⟨p, A1, n1, c1, r, B1, m1, e1⟩ with
      | true =>
        have HP := Lib.hid hp
        clear hp d0
        rintro e w2 ⟨rfl, hb2⟩
        have HB2 := Lib.hid (keep_below hb2 HB.out)
        clear hb2
        go_wp2_with fail
        go_roundw
        case rel => exact ⟨k + 1, q + 1, by omega, by omega, by go_num, by go_num, by rw [take_nx' HX.out, List.filter_append, List.length_append, ← HQ.out, List.filter_cons_of_pos HP.out]; rfl, HB2.out⟩
        case measure => simp [intOf]; omega
      | false =>
        have HP := Lib.hid hp
        clear hp d0
        rintro e w2 ⟨rfl, hb2⟩
        have HB2 := Lib.hid (keep_below hb2 HB.out)
        clear hb2
        go_wp2_with fail
        go_roundw
        case rel => exact ⟨k + 1, q, by omega, by omega, by go_num, rfl, by rw [take_nx' HX.out, List.filter_append, List.length_append, ← HQ.out, List.filter_cons_of_neg (by rw [HP.out]; decide)]; rfl, HB2.out⟩
        case measure => simp [intOf]; omega
    · have hkn : k = n := by omega
      subst hkn
      have hd : decide ((k : Int) < (k : Int)) = false := by simp
      have hd2 : decide (k < k) = false := by simp
      have HV := Lib.hid (show q = (l.filter sb).length from by rw [HQ.out, List.take_of_length_le (by rw [HL.out]; omega)])
      go_wp2_with fail
      go_ret
      exact ⟨by rw [← HV.out]; rfl, hb⟩
theorem allG_any (gp : Nat) (A : Option Addr) (n c : Nat) (l : List FC) (sb : FC → Bool) (w : World) (h : Reads w w.heap.size 4 A n c (l.flatMap fcCells))
    (hS : ∀ x ∈ l, ∀ wq, Below w.heap.size w wq → Calls Tryd.prog 29 #[fcV x, .pointer (some ⟨gp, 0, none⟩)] wq fun e w' => e = .returned (.bool (sb x)) ∧ Below wq.heap.size wq w') (hn : n ≤ 1000000) :
    Calls Tryd.prog 28 #[.slice A n c, .func (.func 29) #[] #[.pointer (some ⟨gp, 0, none⟩)]] w fun e w' => e = .returned (.bool (l.all sb)) ∧ Below w.heap.size w w' := by
  have hlen := h.length fcCells_len (by omega)
  have HV := Lib.hid (show l.all sb = (((l.filter sb).length : Int) == (n : Int)) from by rw [← hlen]; exact all_count sb l)
  clear hlen
  go_enter Tryd.func28, Tryd.ntmps28
  go_wp2_with fail
  refine (cntG_any gp A n c l sb _ h hS hn).mono ?_
  rintro e w2 ⟨rfl, hb2⟩
  go_wp2_with fail
  go_ret
  exact ⟨by rw [HV.out]; rfl, hb2⟩
end Go.Proofs.YtnnchinpmnpfiaaDoor
/- The program's valid: is a function right? -/
namespace Go.Proofs.YtnnchinpmnpfiaaDoor
open Go.ChangeShapes Go.WideShapes Go.RowKit Words

def lastB (ins : List NI) : Bool := match ins[ins.length - 1]? with | some x => decide (x.op = 11 ∨ x.op = 25) | none => false
def validF (locs : List Int) (p r : Int) (ins : List NI) (sb : NI → Bool) : Bool :=
  decide (locs.length ≤ 16) && (locs.all typedB && (typedB r && (decide (0 ≤ p) && (decide (p ≤ 3 ∧ p ≤ locs.length) && (decide (1 ≤ ins.length) && (decide (ins.length ≤ 256) && (lastB ins && ins.all sb)))))))
theorem valid1_any (S : Option Addr) (ns cs : Nat) (F : Option Addr) (nf cf : Nat) (N : Option Addr) (nn cn : Nat) (p : Int) (A : Option Addr) (n c : Nat) (r : Int) (B : Option Addr) (m d : Nat) (x : NI) (gp gf : Nat) (v : Bool) (w : World)
    (X0 : Blk w gp 37 #[.slice S ns cs, .slice F nf cf, .slice N nn cn]) (X1 : Blk w gf 49 #[.int .i64 p, .slice A n c, .int .i64 r, .slice B m d])
    (hS : ∀ wq, Below w.heap.size w wq → Calls Tryd.prog 50 #[prV S ns cs F nf cf N nn cn, fnV p A n c r B m d, insV x] wq fun e w' => e = .returned (.bool v) ∧ Below wq.heap.size wq w') :
    Calls Tryd.prog 49 #[insV x, .pointer (some ⟨gp, 0, none⟩), .pointer (some ⟨gf, 0, none⟩)] w fun e w' => e = .returned (.bool v) ∧ Below w.heap.size w w' := by
  obtain ⟨op, a, b, c', k⟩ := x
  have hB : Below w.heap.size w (w.alloc (.cells #[.int .i64 op, .int .i64 a, .int .i64 b, .int .i64 c', .int .u64 (U k)] 53)) := keep_alloc (Below.refl _ _) _
  have Y0 := X0.below hB
  have Y1 := X1.below hB
  have y0 := Y0.cell 0 _ rfl
  have y1 := Y0.cell 1 _ rfl
  have y2 := Y0.cell 2 _ rfl
  have u0 := Y1.cell 0 _ rfl
  have u1 := Y1.cell 1 _ rfl
  have u2 := Y1.cell 2 _ rfl
  have u3 := Y1.cell 3 _ rfl
  have HS := Lib.hid (hS _ hB)
  clear hS X0 X1 Y0 Y1
  go_enter Tryd.func49, Tryd.ntmps49
  go_wp2_with fail
  refine HS.out.mono ?_
  rintro e w2 ⟨rfl, hb2⟩
  clear HS
  go_wp2_with fail
  go_ret
  exact ⟨rfl, keep_below hb2 hB⟩
set_option linter.unusedSimpArgs false in
set_option maxRecDepth 100000 in
set_option maxHeartbeats 4000000 in
theorem valid_any (S : Option Addr) (ns cs : Nat) (F : Option Addr) (nf cf : Nat) (N : Option Addr) (nn cn : Nat) (p : Int) (A : Option Addr) (n c : Nat) (r : Int) (B : Option Addr) (m d : Nat) (locs : List Int) (ins : List NI) (sb : NI → Bool) (w : World)
    (hA : Reads w w.heap.size 1 A n c (locs.flatMap intCells)) (hI : Reads w w.heap.size 5 B m d (ins.flatMap insCells)) (hn : n ≤ 1000000) (hm : m ≤ 1000000)
    (hS : ∀ x ∈ ins, ∀ wq, Below w.heap.size w wq → Calls Tryd.prog 50 #[prV S ns cs F nf cf N nn cn, fnV p A n c r B m d, insV x] wq fun e w' => e = .returned (.bool (sb x)) ∧ Below wq.heap.size wq w') :
    Calls Tryd.prog 30 #[prV S ns cs F nf cf N nn cn, fnV p A n c r B m d] w fun e w' => e = .returned (.bool (validF locs p r ins sb)) ∧ Below w.heap.size w w' := by
  have hlen := hA.length (f := intCells) (fun _ => rfl) (by omega)
  have hlen2 := hI.length insCells_len (by omega)
  have hB0 : Below w.heap.size w ((w.alloc (.cells #[.slice S ns cs, .slice F nf cf, .slice N nn cn] 37)).alloc (.cells #[.int .i64 p, .slice A n c, .int .i64 r, .slice B m d] 49)) := keep_alloc (keep_alloc (Below.refl _ _) _) _
  have X0 := (Blk.new w #[.slice S ns cs, .slice F nf cf, .slice N nn cn] 37).alloc (.cells #[.int .i64 p, .slice A n c, .int .i64 r, .slice B m d] 49)
  have X1 := Blk.newAt (w.alloc (.cells #[.slice S ns cs, .slice F nf cf, .slice N nn cn] 37)) #[.int .i64 p, .slice A n c, .int .i64 r, .slice B m d] 49 (w.heap.size + 1) (by simp)
  have HL := Lib.hid hlen
  have HL2 := Lib.hid hlen2
  by_cases h16 : 16 < n
  · have t1 : decide ((16 : Int) < (n : Int)) = true := by simp; omega
    have HV := Lib.hid (show validF locs p r ins sb = false from by unfold validF; rw [hlen, decide_eq_false (by omega)]; rfl)
    clear hlen hlen2
    go_enter Tryd.func30, Tryd.ntmps30
    go_wp2_with fail
    go_ret
    exact ⟨by rw [HV.out]; rfl, hB0⟩
  have t1 : decide ((16 : Int) < (n : Int)) = false := by simp; omega
  have HV1 := Lib.hid (show validF locs p r ins sb = (locs.all typedB && (typedB r && (decide (0 ≤ p) && (decide (p ≤ 3 ∧ p ≤ locs.length) && (decide (1 ≤ ins.length) && (decide (ins.length ≤ 256) && (lastB ins && ins.all sb))))))) from by unfold validF; rw [hlen, decide_eq_true (by omega)]; rfl)
  clear hlen hlen2
  go_enter Tryd.func30, Tryd.ntmps30
  go_wp2_with fail
  refine (allT_any A n c locs _ (hA.belowU hB0) hn).mono ?_
  cases hT : locs.all typedB with
  | false =>
    have HV := Lib.hid (show validF locs p r ins sb = false from by rw [HV1.out, hT]; rfl)
    clear hT
    rintro e w2 ⟨rfl, hb2⟩
    have X2 := X1.below hb2
    go_wp2_with fail
    go_ret
    exact ⟨by rw [HV.out]; rfl, keep_below hb2 hB0⟩
  | true =>
  rw [hT, Bool.true_and] at HV1
  clear hT
  rintro e w2 ⟨rfl, hb2⟩
  have hB2 := keep_below hb2 hB0
  have Y0 := X0.below hb2
  have Y1 := X1.below hb2
  obtain ⟨g, hg⟩ : ∃ g, w.heap.size = g := ⟨_, rfl⟩
  have HG := Lib.hid hg
  rw [hg] at Y0 Y1 ⊢
  have y0 := Y1.cell 0 _ rfl
  have y1 := Y1.cell 1 _ rfl
  have y2 := Y1.cell 2 _ rfl
  have y3 := Y1.cell 3 _ rfl
  clear hb2 X0 X1 hB0 hg
  go_wp2_with fail
  refine (typed_any r _).mono ?_
  cases hT : typedB r with
  | false =>
    have HV := Lib.hid (show validF locs p r ins sb = false from by rw [HV1.out, hT]; rfl)
    clear hT y0 y1 y2 y3
    rintro e w3 ⟨rfl, hb3⟩
    go_wp2_with fail
    go_ret
    exact ⟨by rw [HV.out]; rfl, keep_below hb3 hB2⟩
  | true =>
  rw [hT, Bool.true_and] at HV1
  clear hT y0 y1 y2 y3
  rintro e w3 ⟨rfl, hb3⟩
  have hB3 := keep_below hb3 hB2
  have Z0 := Y0.below hb3
  have Z1 := Y1.below hb3
  have z0 := Z1.cell 0 _ rfl
  have z1 := Z1.cell 1 _ rfl
  have z2 := Z1.cell 2 _ rfl
  have z3 := Z1.cell 3 _ rfl
  clear hb3 Y0 Y1 hB2
  by_cases hp0 : p < 0
  · have t2 : decide (p < 0) = true := decide_eq_true hp0
    have HV := Lib.hid (show validF locs p r ins sb = false from by rw [HV1.out, decide_eq_false (by omega)]; rfl)
    go_wp2_with fail
    go_ret
    exact ⟨by rw [HV.out]; rfl, hB3⟩
  have t2 : decide (p < 0) = false := decide_eq_false hp0
  rw [decide_eq_true (show 0 ≤ p by omega), Bool.true_and] at HV1
  obtain ⟨mn, hmn⟩ : ∃ mn : Int, (if (n : Int) < 3 then (n : Int) else 3) = mn := ⟨_, rfl⟩
  have hmv : mn ≤ 3 ∧ mn ≤ n ∧ (mn = 3 ∨ mn = n) := by split at hmn <;> omega
  by_cases hp3 : mn < p
  · have t3 : decide (mn < p) = true := decide_eq_true hp3
    have HV := Lib.hid (show validF locs p r ins sb = false from by rw [HV1.out, decide_eq_false (by have := HL.out; omega)]; rfl)
    go_wp2_with fail
    go_ret
    exact ⟨by rw [HV.out]; rfl, hB3⟩
  have t3 : decide (mn < p) = false := decide_eq_false hp3
  rw [decide_eq_true (show p ≤ 3 ∧ p ≤ (locs.length : Int) by have := HL.out; omega), Bool.true_and] at HV1
  by_cases hm1 : m < 1
  · have t4 : decide ((m : Int) < 1) = true := decide_eq_true (by omega)
    have t5 : decide (m < 1) = true := decide_eq_true hm1
    have HV := Lib.hid (show validF locs p r ins sb = false from by rw [HV1.out, decide_eq_false (by have := HL2.out; omega)]; rfl)
    go_wp2_with fail
    go_ret
    exact ⟨by rw [HV.out]; rfl, hB3⟩
  rw [decide_eq_true (show 1 ≤ ins.length by have := HL2.out; omega), Bool.true_and] at HV1
  by_cases hm2 : 256 < m
  · have t4 : decide ((m : Int) < 1) = false := decide_eq_false (by omega)
    have t5 : decide (m < 1) = false := decide_eq_false hm1
    have t6 : decide ((256 : Int) < (m : Int)) = true := decide_eq_true (by omega)
    have t7 : decide (256 < m) = true := decide_eq_true hm2
    have HV := Lib.hid (show validF locs p r ins sb = false from by rw [HV1.out, decide_eq_false (by have := HL2.out; omega)]; rfl)
    go_wp2_with fail
    go_ret
    exact ⟨by rw [HV.out]; rfl, hB3⟩
  rw [decide_eq_true (show ins.length ≤ 256 by have := HL2.out; omega), Bool.true_and] at HV1
  obtain ⟨j, rfl⟩ : ∃ j, m = j + 1 := ⟨m - 1, by omega⟩
  have hI3 := hI.belowU hB3
  obtain ⟨b0, off, x, rfl, hbb, hx, hc⟩ := hI3.elem insCells_len (by omega) (show j < j + 1 by omega)
  obtain ⟨op, a, b, c', kk⟩ := x
  have d0 : w3.cell? ⟨b0, off + j * 5, none⟩ = some (.int .i64 op) := hc 0 _ rfl
  have hlast : lastB ins = decide (op = 11 ∨ op = 25) := by
    unfold lastB
    rw [show ins.length - 1 = j by have := HL2.out; omega, hx]
  have hw : IntKind.i64.wrap ((j : Int) + 1 - 1) = (j : Int) := by rw [show (j : Int) + 1 - 1 = (j : Int) by omega]; exact IntWalk.i64_in _ (by omega)
  have hw2 : IntKind.i64.wrap (j : Int) = (j : Int) := IntWalk.i64_in _ (by omega)
  have t4 : decide (((j + 1 : Nat) : Int) < 1) = false := decide_eq_false (by omega)
  have t5 : decide (j + 1 < 1) = false := decide_eq_false hm1
  have t4' : decide ((j : Int) + 1 < 1) = false := decide_eq_false (by omega)
  have t6 : decide ((256 : Int) < ((j + 1 : Nat) : Int)) = false := decide_eq_false (by omega)
  have t7 : decide (256 < j + 1) = false := decide_eq_false hm2
  have t6' : decide ((256 : Int) < (j : Int) + 1) = false := decide_eq_false (by omega)
  have hj0 : (0 : Int) ≤ (j : Int) := by omega
  have hj1 : (j : Int) < (j : Int) + 1 := by omega
  clear hc
  by_cases h11 : op = 11 ∨ op = 25
  · have HV := Lib.hid (show validF locs p r ins sb = ins.all sb from by rw [HV1.out, hlast, decide_eq_true h11]; rfl)
    have HC := Lib.hid (show ∀ x ∈ ins, ∀ wq, Below w3.heap.size w3 wq → Calls Tryd.prog 49 #[insV x, .pointer (some ⟨g, 0, none⟩), .pointer (some ⟨g + 1, 0, none⟩)] wq fun e w' => e = .returned (.bool (sb x)) ∧ Below wq.heap.size wq w' from fun x hx wq hq => valid1_any S ns cs F nf cf N nn cn p A n c r _ (j + 1) d x g (g + 1) (sb x) wq (Z0.below hq) (Z1.below hq) (fun wz hz => hS x hx wz (keep_below hz (keep_below hq hB3))))
    clear hlast hS hx
    have hop : (op != 11) = false ∨ ((op != 11) = true ∧ (op != 25) = false) := by
      rcases h11 with rfl | rfl
      · exact Or.inl rfl
      · exact Or.inr ⟨rfl, rfl⟩
    clear h11
    rcases hop with ho | ⟨ho, ho2⟩
    all_goals
      go_wp2_with fail
      refine (allI_any g (g + 1) _ (j + 1) d ins sb _ hI3 HC.out (by omega)).mono ?_
      rintro e w4 ⟨rfl, hb4⟩
      clear z0 z1 z2 z3 d0
      go_wp2_with fail
      go_ret
      exact ⟨by rw [HV.out]; rfl, keep_below hb4 hB3⟩
  · have HV := Lib.hid (show validF locs p r ins sb = false from by rw [HV1.out, hlast, decide_eq_false h11]; rfl)
    have ho : (op != 11) = true := by simp; exact fun e => h11 (Or.inl e)
    have ho2 : (op != 25) = true := by simp; exact fun e => h11 (Or.inr e)
    clear hlast hS hx h11
    go_wp2_with fail
    go_ret
    exact ⟨by rw [HV.out]; rfl, hB3⟩
end Go.Proofs.YtnnchinpmnpfiaaDoor
/- The sanity check of the statements about mcode. -/
namespace Go.Proofs.YtnnchinpmnpfiaaDoor
open Go.ChangeShapes Go.WideShapes Go.RowKit Words

theorem allH_nil (gc : Nat) (w : World) : Calls Tryd.prog 22 #[.slice none 0 0, .func (.func 23) #[] #[.pointer (some ⟨gc, 0, none⟩)]] w fun e w' => e = .returned (.bool true) ∧ Below w.heap.size w w' := by
  have hc : ∀ wq, Calls Tryd.prog 42 #[.slice none 0 0, .func (.func 23) #[] #[.pointer (some ⟨gc, 0, none⟩)]] wq fun e w' => e = .returned (.int .i64 0) ∧ Below wq.heap.size wq w' := fun wq => by
    go_enter Tryd.func42, Tryd.ntmps42
    go_wp2_with fail
    go_loopw [5, 10] (fun s x wr => s = .int .i64 0 ∧ x = .int .i64 0 ∧ Below wq.heap.size wq wr) (fun _ _ _ => 0)
    case atStart => exact ⟨rfl, rfl, Below.refl _ _⟩
    case round =>
      obtain ⟨rfl, rfl, hb⟩ := hrel
      go_wp2_with fail
      go_ret
      exact ⟨rfl, hb⟩
  go_enter Tryd.func22, Tryd.ntmps22
  go_wp2_with fail
  refine (hc _).mono ?_
  rintro e w2 ⟨rfl, hb2⟩
  go_wp2_with fail
  go_ret
  exact ⟨rfl, hb2⟩
theorem check3_any (S : Option Addr) (ns cs : Nat) (F : Option Addr) (nf cf : Nat) (N : Option Addr) (nn cn : Nat) (x : FC) (gp : Nat) (v : Bool) (w : World)
    (X0 : Blk w gp 37 #[.slice S ns cs, .slice F nf cf, .slice N nn cn])
    (hS : ∀ wq, Below w.heap.size w wq → Calls Tryd.prog 30 #[prV S ns cs F nf cf N nn cn, fcV x] wq fun e w' => e = .returned (.bool v) ∧ Below wq.heap.size wq w') :
    Calls Tryd.prog 29 #[fcV x, .pointer (some ⟨gp, 0, none⟩)] w fun e w' => e = .returned (.bool v) ∧ Below w.heap.size w w' := by
  obtain ⟨p, A, n, c, r, B, m, d⟩ := x
  have hB : Below w.heap.size w (w.alloc (.cells #[.int .i64 p, .slice A n c, .int .i64 r, .slice B m d] 49)) := keep_alloc (Below.refl _ _) _
  have Y0 := X0.below hB
  have y0 := Y0.cell 0 _ rfl
  have y1 := Y0.cell 1 _ rfl
  have y2 := Y0.cell 2 _ rfl
  have HS := Lib.hid (hS _ hB)
  clear hS X0 Y0
  go_enter Tryd.func29, Tryd.ntmps29
  go_wp2_with fail
  refine HS.out.mono ?_
  rintro e w2 ⟨rfl, hb2⟩
  clear HS
  go_wp2_with fail
  go_ret
  exact ⟨rfl, keep_below hb2 hB⟩
theorem check_empty (w : World) : Calls Tryd.prog 8 #[prV none 0 0 none 0 0 none 0 0, .agg #[.int .i64 16, .int .i64 8]] w fun e w' => e = .returned (.int .i64 16) ∧ Below w.heap.size w w' := by
  have hB : Below w.heap.size w ((w.alloc (.cells #[.slice none 0 0, .slice none 0 0, .slice none 0 0] 37)).alloc (.cells #[.int .i64 16, .int .i64 8] 28)) := keep_alloc (keep_alloc (Below.refl _ _) _) _
  go_enter Tryd.func8, Tryd.ntmps8
  go_wp2_with fail
  go_ret
  exact ⟨rfl, hB⟩
set_option linter.unusedSimpArgs false in
set_option maxRecDepth 100000 in
set_option maxHeartbeats 4000000 in
theorem check_one (gf ga gi : Nat) (w : World) (hF : Reads w w.heap.size 4 (some ⟨gf, 0, none⟩) 1 1 (([⟨0, some ⟨ga, 0, none⟩, 1, 1, 1, some ⟨gi, 0, none⟩, 1, 1⟩] : List FC).flatMap fcCells))
    (hA : Reads w w.heap.size 1 (some ⟨ga, 0, none⟩) 1 1 (([1] : List Int).flatMap intCells)) (hI : Reads w w.heap.size 5 (some ⟨gi, 0, none⟩) 1 1 (([⟨25, 0, 0, 0, 0#64⟩] : List NI).flatMap insCells)) :
    Calls Tryd.prog 8 #[prV none 0 0 (some ⟨gf, 0, none⟩) 1 1 none 0 0, .agg #[.int .i64 16, .int .i64 8]] w fun e w' => e = .returned (.int .i64 0) ∧ Below w.heap.size w w' := by
  have hB : Below w.heap.size w ((w.alloc (.cells #[.slice none 0 0, .slice (some ⟨gf, 0, none⟩) 1 1, .slice none 0 0] 37)).alloc (.cells #[.int .i64 16, .int .i64 8] 28)) := keep_alloc (keep_alloc (Below.refl _ _) _) _
  have X0 := (Blk.new w #[.slice none 0 0, .slice (some ⟨gf, 0, none⟩) 1 1, .slice none 0 0] 37).alloc (.cells #[.int .i64 16, .int .i64 8] 28)
  go_enter Tryd.func8, Tryd.ntmps8
  go_wp2_with fail
  refine (allH_nil _ _).mono ?_
  rintro e w2 ⟨rfl, hb2⟩
  have hB2 := keep_below hb2 hB
  have X2 := X0.below hb2
  obtain ⟨g, hg⟩ : ∃ g, w.heap.size = g := ⟨_, rfl⟩
  have HG := Lib.hid hg
  rw [hg] at X2 ⊢
  have x0 := X2.cell 0 _ rfl
  have x1 := X2.cell 1 _ rfl
  have x2 := X2.cell 2 _ rfl
  clear hg hb2 X0 hB
  go_wp2_with fail
  refine (allF_any none 0 0 [] _ Reads.nil (by omega)).mono ?_
  rintro e w3 ⟨rfl, hb3⟩
  have hB3 := keep_below hb3 hB2
  have X3 := X2.below hb3
  clear x0 x1 x2 hb3 hB2 X2
  have x0 := X3.cell 0 _ rfl
  have x1 := X3.cell 1 _ rfl
  have x2 := X3.cell 2 _ rfl
  have hF3 := hF.belowU hB3
  have hA3 := hA.belowU hB3
  have hI3 := hI.belowU hB3
  obtain ⟨b, o, he, -, hc⟩ := hF3.at_ (by omega)
  cases he
  have f0 := hc 0 _ rfl
  have f1 := hc 1 _ rfl
  have f2 := hc 2 _ rfl
  have f3 := hc 3 _ rfl
  rw [Nat.add_zero] at f0
  rw [Nat.zero_add] at f1 f2 f3
  clear hc
  have hB4 := keep_alloc hB3 (.cells #[.int .i64 0, .slice (some ⟨ga, 0, none⟩) 1 1, .int .i64 1, .slice (some ⟨gi, 0, none⟩) 1 1] 49)
  have hb34 : Below w3.heap.size w3 (w3.alloc (.cells #[.int .i64 0, .slice (some ⟨ga, 0, none⟩) 1 1, .int .i64 1, .slice (some ⟨gi, 0, none⟩) 1 1] 49)) := keep_alloc (Below.refl _ _) _
  have X4 := X3.below hb34
  have hF4 := hF3.belowU hb34
  have hA4 := hA3.belowU hb34
  have hI4 := hI3.belowU hb34
  clear hb34
  have y1 := X4.cell 1 _ rfl
  go_wp2_with fail
  refine (allG_any g _ 1 1 [⟨0, some ⟨ga, 0, none⟩, 1, 1, 1, some ⟨gi, 0, none⟩, 1, 1⟩] (fun _ => true) _ hF4 ?_ (by omega)).mono ?_
  · intro x hx wq hq
    simp only [List.mem_singleton] at hx
    subst hx
    refine check3_any none 0 0 (some ⟨gf, 0, none⟩) 1 1 none 0 0 _ g true wq (X4.below hq) (fun wz hz => ?_)
    have hqz := keep_below hz hq
    have := valid_any none 0 0 (some ⟨gf, 0, none⟩) 1 1 none 0 0 0 (some ⟨ga, 0, none⟩) 1 1 1 (some ⟨gi, 0, none⟩) 1 1 [1] [⟨25, 0, 0, 0, 0#64⟩] (fun _ => true) wz (hA4.belowU hqz) (hI4.belowU hqz) (by omega) (by omega) (fun x hx wy hy => by
      simp only [List.mem_singleton] at hx
      subst hx
      have := suits_any none 0 0 (some ⟨gf, 0, none⟩) 1 1 none 0 0 0 (some ⟨ga, 0, none⟩) 1 1 1 (some ⟨gi, 0, none⟩) 1 1 ⟨25, 0, 0, 0, 0#64⟩ [1] [0] [1] true wy (hA4.belowU (keep_below hy hqz)) rfl (by decide) (fun _ _ z hz => by simp only [List.mem_singleton] at hz; omega) (fun wx _ => kinds_ret none 0 0 (some ⟨gf, 0, none⟩) 1 1 none 0 0 0 (some ⟨ga, 0, none⟩) 1 1 1 (some ⟨gi, 0, none⟩) 1 1 0 0 0 0#64 wx)
      exact this)
    exact this
  · rintro e w5 ⟨rfl, hb5⟩
    clear f0 f1 f2 f3 x0 x1 x2 y1
    go_wp2_with fail
    go_ret
    exact ⟨rfl, keep_below hb5 hB4⟩
set_option linter.unusedSimpArgs false in
set_option maxRecDepth 100000 in
set_option maxHeartbeats 4000000 in
theorem awake_any (w : World) : Calls Tryd.prog 11 #[] w fun e w' => e = .returned (.bool true) ∧ Below w.heap.size w w' := by
  have hB : Below w.heap.size w ((((w.alloc (.cells #[.int .i64 1] 3)).alloc (.cells #[.int .i64 25, .int .i64 0, .int .i64 0, .int .i64 0, .int .u64 0] 53)).alloc (.cells #[.int .i64 0, .slice (some ⟨w.heap.size, 0, none⟩) 1 1, .int .i64 1, .slice (some ⟨w.heap.size + 1, 0, none⟩) 1 1] 49)).alloc (.cells #[.slice none 0 0, .slice (some ⟨w.heap.size + 1 + 1, 0, none⟩) 1 1, .slice none 0 0] 37)) := keep_alloc (keep_alloc (keep_alloc (keep_alloc (Below.refl _ _) _) _) _) _
  have R1 := Reads.freshAt w #[.int .i64 1] 3 1 1 (([1] : List Int).flatMap intCells) w.heap.size rfl rfl rfl (by decide)
  have R1a := R1.belowU (keep_alloc (Below.refl _ _) (.cells #[.int .i64 25, .int .i64 0, .int .i64 0, .int .i64 0, .int .u64 0] 53))
  have R2 := Reads.freshAt (w.alloc (.cells #[.int .i64 1] 3)) #[.int .i64 25, .int .i64 0, .int .i64 0, .int .i64 0, .int .u64 0] 53 5 1 (([⟨25, 0, 0, 0, 0#64⟩] : List NI).flatMap insCells) (w.heap.size + 1) (by simp) rfl rfl (by decide)
  have R1b := R1a.belowU (keep_alloc (Below.refl _ _) (.cells #[.int .i64 0, .slice (some ⟨w.heap.size, 0, none⟩) 1 1, .int .i64 1, .slice (some ⟨w.heap.size + 1, 0, none⟩) 1 1] 49))
  have R2b := R2.belowU (keep_alloc (Below.refl _ _) (.cells #[.int .i64 0, .slice (some ⟨w.heap.size, 0, none⟩) 1 1, .int .i64 1, .slice (some ⟨w.heap.size + 1, 0, none⟩) 1 1] 49))
  have R3 := Reads.freshAt ((w.alloc (.cells #[.int .i64 1] 3)).alloc (.cells #[.int .i64 25, .int .i64 0, .int .i64 0, .int .i64 0, .int .u64 0] 53)) #[.int .i64 0, .slice (some ⟨w.heap.size, 0, none⟩) 1 1, .int .i64 1, .slice (some ⟨w.heap.size + 1, 0, none⟩) 1 1] 49 4 1 (([⟨0, some ⟨w.heap.size, 0, none⟩, 1, 1, 1, some ⟨w.heap.size + 1, 0, none⟩, 1, 1⟩] : List FC).flatMap fcCells) (w.heap.size + 1 + 1) (by simp) rfl rfl (by decide)
  have hk := keep_alloc (Below.refl _ _) (.cells #[.slice none 0 0, .slice (some ⟨w.heap.size + 1 + 1, 0, none⟩) 1 1, .slice none 0 0] 37) (w := (((w.alloc (.cells #[.int .i64 1] 3)).alloc (.cells #[.int .i64 25, .int .i64 0, .int .i64 0, .int .i64 0, .int .u64 0] 53)).alloc (.cells #[.int .i64 0, .slice (some ⟨w.heap.size, 0, none⟩) 1 1, .int .i64 1, .slice (some ⟨w.heap.size + 1, 0, none⟩) 1 1] 49)))
  have HC := Lib.hid (check_one (w.heap.size + 1 + 1) w.heap.size (w.heap.size + 1) _ (R3.belowU hk) (R1b.belowU hk) (R2b.belowU hk))
  clear R1 R1a R1b R2 R2b R3 hk
  go_enter Tryd.func11, Tryd.ntmps11
  go_wp2_with fail
  refine HC.out.mono ?_
  rintro e w2 ⟨rfl, hb2⟩
  have hB2 := keep_below hb2 hB
  clear HC hb2 hB
  go_wp2_with fail
  refine (check_empty _).mono ?_
  rintro e w3 ⟨rfl, hb3⟩
  have hB3 := keep_below hb3 hB2
  go_wp2_with fail
  go_ret
  exact ⟨rfl, hB3⟩
end Go.Proofs.YtnnchinpmnpfiaaDoor

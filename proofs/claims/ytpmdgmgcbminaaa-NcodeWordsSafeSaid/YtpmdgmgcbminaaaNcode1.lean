/- Native programs: what a program reads as, and which programs are well-formed. PRINTED BY A PROGRAM (mk_ncode1.py). -/
import Derived.Test.YtpmdgmgcbminaaaOpen
import Derived.Test.YtpmdgmgcbminaaaNum
import Derived.WalkSpells
import Derived.BigQuiet
import Derived.Deep.QuietTactic
namespace Go.Proofs.Ytpmdgmgcbminaaa
open Go.ChangeShapes Go.WideShapes Go.RowKit Words

structure NI where
  op : Int
  a : Int
  b : Int
  c : Int
  k : BitVec 64
deriving DecidableEq
def insCells (x : NI) : List Value := [.int .i64 x.op, .int .i64 x.a, .int .i64 x.b, .int .i64 x.c, .int .u64 (U x.k)]
abbrev insV (x : NI) : Value := .agg #[.int .i64 x.op, .int .i64 x.a, .int .i64 x.b, .int .i64 x.c, .int .u64 (U x.k)]
abbrev codeV (g : Int) (A : Option Addr) (n c : Nat) : Value := .agg #[.int .i64 g, .slice A n c]
theorem insCells_len (x : NI) : (insCells x).length = 5 := rfl
theorem insCells_one (l : List NI) : ∀ u ∈ l.flatMap insCells, u.oneCell' = true := by
  intro u hu
  rw [List.mem_flatMap] at hu
  obtain ⟨x, _, hx⟩ := hu
  simp only [insCells, List.mem_cons, List.not_mem_nil, or_false] at hx
  rcases hx with rfl | rfl | rfl | rfl | rfl <;> rfl
theorem ret_nb {x y : Bool} (h : x = y) : Ending.returned (.bool x) = .returned (.bool y) := by rw [h]
theorem tyNIns : SlTy Try.prog 35 60 5 40 := SlTy.mk' (z := .agg #[.int .i64 0, .int .i64 0, .int .i64 0, .int .i64 0, .int .u64 0]) Try.underlying35 (by kernel_rfl) rfl (by omega)
theorem tyRIns : SlTy Try.prog 25 58 5 40 := SlTy.mk' (z := .agg #[.int .i64 0, .int .i64 0, .int .i64 0, .int .i64 0, .int .u64 0]) Try.underlying25 (by kernel_rfl) rfl (by omega)
theorem tyNWords : SlTy Try.prog 28 56 1 8 := SlTy.mk' (z := .int .u64 0) Try.underlying28 (by kernel_rfl) rfl (by omega)
def I64 (x : Int) : Prop := -9223372036854775808 ≤ x ∧ x ≤ 9223372036854775807
def NI.ok64 (x : NI) : Prop := I64 x.op ∧ I64 x.a ∧ I64 x.b ∧ I64 x.c

section
variable {H : Type} {enc : TypeId × Value → H} {w : World} {base b : Nat} {spare : Nat → Bool} {held : Bool}
theorem cells_ins {n : Nat} {cs : List Value} {y : DataW H × List MemPlace} (h : DataW.trod enc Try.prog w base spare held n 58 cs = some y) : ∃ x : NI, cs = insCells x ∧ x.ok64 := by
  obtain ⟨hl, hf⟩ := cells_struct Try.underlying58 (by kernel_rfl) (by kernel_rfl) h
  obtain ⟨v0, m0, z0, e0, t0⟩ := hf 0 _ rfl
  obtain ⟨v1, m1, z1, e1, t1⟩ := hf 1 _ rfl
  obtain ⟨v2, m2, z2, e2, t2⟩ := hf 2 _ rfl
  obtain ⟨v3, m3, z3, e3, t3⟩ := hf 3 _ rfl
  obtain ⟨v4, m4, z4, e4, t4⟩ := hf 4 _ rfl
  obtain ⟨a0, ha0, r0⟩ := cells_i64 Try.underlying3 t0
  obtain ⟨a1, ha1, r1⟩ := cells_i64 Try.underlying3 t1
  obtain ⟨a2, ha2, r2⟩ := cells_i64 Try.underlying3 t2
  obtain ⟨a3, ha3, r3⟩ := cells_i64 Try.underlying3 t3
  obtain ⟨x, hx⟩ := cells_word Try.underlying56 t4
  simp only [List.cons.injEq, and_true] at ha0 ha1 ha2 ha3 hx
  subst ha0 ha1 ha2 ha3 hx
  exact ⟨⟨a0, a1, a2, a3, x⟩, list5 hl e0 e1 e2 e3 e4, r0, r1, r2, r3⟩
set_option maxRecDepth 100000 in
theorem open_code {v : Value} {d : DataW H} {ps : List MemPlace} (hv : Value.okWide Try.prog w .any b 27 v) (h : DataW.Trod enc Try.prog w base spare held 27 v d ps) :
    ∃ g A n c, ∃ l : List NI, v = codeV g A n c ∧ I64 g ∧ Reads w w.heap.size 5 A n c (l.flatMap insCells) ∧ ∀ x ∈ l, x.ok64 := by
  obtain ⟨cs, rfl, _⟩ := okWide_struct Try.underlying27 hv
  obtain ⟨fuel, hf'⟩ := h
  obtain ⟨hl, hf⟩ := cells_struct Try.underlying27 (by kernel_rfl) (by kernel_rfl) hf'
  obtain ⟨v0, m0, z0, e0, t0⟩ := hf 0 _ rfl
  obtain ⟨v1, m1, z1, e1, t1⟩ := hf 1 _ rfl
  obtain ⟨g, hg, rg⟩ := cells_i64 Try.underlying3 t0
  obtain ⟨A, n, c, l, he, h1, h2⟩ := cells_seq insCells NI.ok64 Try.underlying25 (by kernel_rfl) (by omega) (fun n cs' y hy => cells_ins hy) insCells_len t1
  simp only [List.cons.injEq, and_true] at hg he
  subst hg he
  refine ⟨g, A, n, c, l, ?_, rg, h1, h2⟩
  have := list2 hl e0 e1
  simp only [Value.cells] at this
  rw [← Array.toArray_toList (xs := cs), this]
end

/-- is an instruction well-formed? -/
def formedI (x : NI) : Bool := decide (1 ≤ x.op) && decide (x.op ≤ 17) && decide (0 ≤ x.a) && decide (x.a < 8) && decide (0 ≤ x.b) && decide (x.b ≤ 255) && decide (0 ≤ x.c) && decide (x.c < 8)
theorem formedI_iff (x : NI) : formedI x = true ↔ (1 ≤ x.op ∧ x.op ≤ 17) ∧ (0 ≤ x.a ∧ x.a < 8) ∧ (0 ≤ x.b ∧ x.b ≤ 255) ∧ 0 ≤ x.c ∧ x.c < 8 := by
  unfold formedI
  simp only [Bool.and_eq_true, decide_eq_true_eq]
  omega
/-- is a program well-formed? -/
def formedC (g : Int) (l : List NI) : Bool := decide (0 ≤ g) && decide (g ≤ 3) && decide (l.length ≤ 256) && l.all formedI
set_option maxHeartbeats 1000000 in
theorem insformed_any (x : NI) (w : World) :
    Calls Try.prog 44 #[insV x] w fun e w' => e = .returned (.bool (formedI x)) ∧ Below w.heap.size w w' := by
  obtain ⟨op, a, b, c, k⟩ := x
  by_cases t0 : op < 1
  · have hx : decide (1 ≤ op) = false := decide_eq_false (by omega)
    have HV := Lib.hid (show formedI ⟨op, a, b, c, k⟩ = false from Bool.eq_false_iff.2 (fun h => by have := (formedI_iff _).1 h; dsimp only at this; omega))
    go_enter Try.func44, Try.ntmps44
    go_wp2_with fail
    go_ret
    exact ⟨ret_nb HV.out.symm, by go_grown⟩
  by_cases t1 : 17 < op
  · have hx : decide (op ≤ 17) = false := decide_eq_false (by omega)
    have HV := Lib.hid (show formedI ⟨op, a, b, c, k⟩ = false from Bool.eq_false_iff.2 (fun h => by have := (formedI_iff _).1 h; dsimp only at this; omega))
    go_enter Try.func44, Try.ntmps44
    go_wp2_with fail
    go_ret
    exact ⟨ret_nb HV.out.symm, by go_grown⟩
  by_cases t2 : a < 0
  · have hx : decide (0 ≤ a) = false := decide_eq_false (by omega)
    have HV := Lib.hid (show formedI ⟨op, a, b, c, k⟩ = false from Bool.eq_false_iff.2 (fun h => by have := (formedI_iff _).1 h; dsimp only at this; omega))
    go_enter Try.func44, Try.ntmps44
    go_wp2_with fail
    go_ret
    exact ⟨ret_nb HV.out.symm, by go_grown⟩
  by_cases t3 : 8 ≤ a
  · have hx : decide (a < 8) = false := decide_eq_false (by omega)
    have HV := Lib.hid (show formedI ⟨op, a, b, c, k⟩ = false from Bool.eq_false_iff.2 (fun h => by have := (formedI_iff _).1 h; dsimp only at this; omega))
    go_enter Try.func44, Try.ntmps44
    go_wp2_with fail
    go_ret
    exact ⟨ret_nb HV.out.symm, by go_grown⟩
  by_cases t4 : b < 0
  · have hx : decide (0 ≤ b) = false := decide_eq_false (by omega)
    have HV := Lib.hid (show formedI ⟨op, a, b, c, k⟩ = false from Bool.eq_false_iff.2 (fun h => by have := (formedI_iff _).1 h; dsimp only at this; omega))
    go_enter Try.func44, Try.ntmps44
    go_wp2_with fail
    go_ret
    exact ⟨ret_nb HV.out.symm, by go_grown⟩
  by_cases t5 : 255 < b
  · have hx : decide (b ≤ 255) = false := decide_eq_false (by omega)
    have HV := Lib.hid (show formedI ⟨op, a, b, c, k⟩ = false from Bool.eq_false_iff.2 (fun h => by have := (formedI_iff _).1 h; dsimp only at this; omega))
    go_enter Try.func44, Try.ntmps44
    go_wp2_with fail
    go_ret
    exact ⟨ret_nb HV.out.symm, by go_grown⟩
  by_cases t6 : c < 0
  · have hx : decide (0 ≤ c) = false := decide_eq_false (by omega)
    have HV := Lib.hid (show formedI ⟨op, a, b, c, k⟩ = false from Bool.eq_false_iff.2 (fun h => by have := (formedI_iff _).1 h; dsimp only at this; omega))
    go_enter Try.func44, Try.ntmps44
    go_wp2_with fail
    go_ret
    exact ⟨ret_nb HV.out.symm, by go_grown⟩
  by_cases t7 : 8 ≤ c
  · have hx : decide (c < 8) = false := decide_eq_false (by omega)
    have HV := Lib.hid (show formedI ⟨op, a, b, c, k⟩ = false from Bool.eq_false_iff.2 (fun h => by have := (formedI_iff _).1 h; dsimp only at this; omega))
    go_enter Try.func44, Try.ntmps44
    go_wp2_with fail
    go_ret
    exact ⟨ret_nb HV.out.symm, by go_grown⟩
  have HV := Lib.hid (show formedI ⟨op, a, b, c, k⟩ = true from (formedI_iff _).2 (by dsimp only; omega))
  go_enter Try.func44, Try.ntmps44
  go_wp2_with fail
  go_ret
  exact ⟨ret_nb HV.out.symm, by go_grown⟩

theorem code_alloc (w : World) (t : TypeId) (g : Int) (A : Option Addr) (n c : Nat) : Below w.heap.size w (w.alloc (.cells #[.int .i64 g, .slice A n c] t)) := keep_alloc (Below.refl _ _) _
theorem formed_any (g : Int) (A : Option Addr) (n c : Nat) (l : List NI) (w : World) (h : Reads w w.heap.size 5 A n c (l.flatMap insCells)) :
    Calls Try.prog 28 #[codeV g A n c] w fun e w' => e = .returned (.bool (formedC g l)) ∧ Below w.heap.size w w' := by
  have hlen := h.length insCells_len (by omega)
  have hcap := h.cap
  have hle := h.le
  unfold maxLen at hcap
  have hW := code_alloc w 37 g A n c
  have hfc : formedC g l = (decide (0 ≤ g) && decide (g ≤ 3) && decide (n ≤ 256) && l.all formedI) := by unfold formedC; rw [hlen]
  have HL := Lib.hid hlen
  have HF := Lib.hid hfc
  clear hlen hfc
  by_cases t0 : g < 0
  · have HV := Lib.hid (show formedC g l = false by rw [HF.out, Bool.eq_false_iff]; intro h; simp only [Bool.and_eq_true, decide_eq_true_eq] at h; omega)
    go_enter Try.func28, Try.ntmps28
    go_wp2_with fail
    go_ret
    exact ⟨ret_nb HV.out.symm, hW⟩
  by_cases t1 : 3 < g
  · have HV := Lib.hid (show formedC g l = false by rw [HF.out, Bool.eq_false_iff]; intro h; simp only [Bool.and_eq_true, decide_eq_true_eq] at h; omega)
    go_enter Try.func28, Try.ntmps28
    go_wp2_with fail
    go_ret
    exact ⟨ret_nb HV.out.symm, hW⟩
  by_cases t2 : 256 < n
  · have HV := Lib.hid (show formedC g l = false by rw [HF.out, Bool.eq_false_iff]; intro h; simp only [Bool.and_eq_true, decide_eq_true_eq] at h; omega)
    have hd : decide ((256 : Int) < (n : Int)) = true := by simp; omega
    go_enter Try.func28, Try.ntmps28
    go_wp2_with fail
    go_ret
    exact ⟨ret_nb HV.out.symm, hW⟩
  have hd : decide ((256 : Int) < (n : Int)) = false := by simp; omega
  have HV := Lib.hid (show formedC g l = l.all formedI by rw [HF.out, decide_eq_true (by omega : 0 ≤ g), decide_eq_true (by omega : g ≤ 3), decide_eq_true (by omega : n ≤ 256)]; simp)
  clear t2
  go_enter Try.func28, Try.ntmps28
  go_wp2_with fail
  obtain ⟨w1, hw1⟩ : ∃ w1, w.alloc (.cells #[.int .i64 g, .slice A n c] 37) = w1 := ⟨_, rfl⟩
  have hs1 : w.heap.size < w1.heap.size := by rw [← hw1]; simp
  rw [hw1] at hW ⊢
  clear hw1
  go_loopw [22] (fun x wq => ∃ k : Nat, k ≤ n ∧ x = .int .i64 k ∧ Below w1.heap.size w1 wq ∧ l.all formedI = (l.drop k).all formedI) (fun x _ => n - (intOf x).toNat)
  case atStart => exact ⟨0, Nat.zero_le _, rfl, Below.refl _ _, rfl⟩
  case round =>
    obtain ⟨k, hk, rfl, hb, hspec⟩ := hrel
    have hsz := hb.size
    by_cases hlt : k < n
    · obtain ⟨b, off, x, rfl, hbb, hx, hc⟩ := (h.below (hW.trans (hb.mono (by omega)))).elem insCells_len (by omega) hlt
      have d0 := hc 0 _ rfl
      have d1 := hc 1 _ rfl
      have d2 := hc 2 _ rfl
      have d3 := hc 3 _ rfl
      have d4 := hc 4 _ rfl
      rw [Nat.add_zero] at d0
      rw [drop_at hx, List.all_cons] at hspec
      have hk0 : (0 : Int) ≤ (k : Int) := by omega
      have hk1 : (k : Int) < (n : Int) := by omega
      have H := Lib.hid hspec
      clear hspec hx hc
      cases hfx : formedI x
      · have HX := Lib.hid hfx
        clear hfx
        go_wp2_with (go_at_call 44; go_loud (refine (insformed_any x _).mono ?_; rintro e w2 ⟨rfl, hb2⟩; rw [HX.out]))
        go_ret
        exact ⟨ret_nb (by rw [HV.out, H.out, HX.out]; rfl), keep_below hb2 (keep_alloc (hW.trans (hb.mono (by omega))) _)⟩
      · have HX := Lib.hid hfx
        clear hfx
        go_wp2_with (go_at_call 44; go_loud (refine (insformed_any x _).mono ?_; rintro e w2 ⟨rfl, hb2⟩; rw [HX.out]))
        go_roundw
        case rel => exact ⟨k + 1, by omega, by go_num, keep_below hb2 (keep_alloc hb _), by rw [H.out, HX.out, Bool.true_and]⟩
        case measure => simp [intOf]; omega
    · rw [drop_end HL.out hlt, List.all_nil] at hspec
      have H := Lib.hid hspec
      clear hspec
      go_wp2_with fail
      go_ret
      exact ⟨ret_nb (by rw [HV.out, H.out]), hW.trans (hb.mono (by omega))⟩

set_option maxRecDepth 100000 in
set_option maxHeartbeats 1000000 in
theorem rformed_any (g : Int) (A : Option Addr) (n c : Nat) (l : List NI) (w : World) (h : Reads w w.heap.size 5 A n c (l.flatMap insCells)) :
    Calls Try.prog 30 #[codeV g A n c] w fun e w' => e = .returned (.bool (formedC g l)) ∧ Below w.heap.size w w' := by
  have hlen := h.length insCells_len (by omega)
  have hcap := h.cap
  have hle := h.le
  unfold maxLen at hcap
  have hW := code_alloc w 27 g A n c
  have B0 := Blk.new w #[.int .i64 g, .slice A n c] 27
  have hfc : formedC g l = (decide (0 ≤ g) && decide (g ≤ 3) && decide (n ≤ 256) && l.all formedI) := by unfold formedC; rw [hlen]
  have HL := Lib.hid hlen
  have HF := Lib.hid hfc
  clear hlen hfc
  go_enter Try.func30, Try.ntmps30
  go_wp2_with fail
  obtain ⟨w1, hw1⟩ : ∃ w1, w.alloc (.cells #[.int .i64 g, .slice A n c] 27) = w1 := ⟨_, rfl⟩
  have hs1 : w.heap.size < w1.heap.size := by rw [← hw1]; simp
  rw [hw1] at hW B0 ⊢
  clear hw1
  go_loopw [3] (fun x wq => ∃ k : Nat, k ≤ n ∧ x = .int .i64 k ∧ Below w1.heap.size w1 wq ∧ l.all formedI = (l.drop k).all formedI) (fun x _ => n - (intOf x).toNat)
  case atStart => exact ⟨0, Nat.zero_le _, rfl, Below.refl _ _, rfl⟩
  case round =>
    obtain ⟨k, hk, rfl, hb, hspec⟩ := hrel
    have hsz := hb.size
    have B1 := B0.below hb
    have q0 : wr.cell? ⟨w.heap.size, 0, none⟩ = some (.int .i64 g) := B1.cell 0 _ rfl
    have q1 : wr.cell? ⟨w.heap.size, 1, none⟩ = some (.slice A n c) := B1.cell 1 _ rfl
    have hB := hW.trans (hb.mono (show w.heap.size ≤ w1.heap.size by omega))
    by_cases hlt : k < n
    · obtain ⟨b, off, x, rfl, hbb, hx, hc⟩ := (h.below hB).elem insCells_len (by omega) hlt
      have d0 := hc 0 _ rfl
      have d1 := hc 1 _ rfl
      have d2 := hc 2 _ rfl
      have d3 := hc 3 _ rfl
      have d4 := hc 4 _ rfl
      rw [Nat.add_zero] at d0
      rw [drop_at hx, List.all_cons] at hspec
      have hk0 : (0 : Int) ≤ (k : Int) := by omega
      have hk1 : (k : Int) < (n : Int) := by omega
      have H := Lib.hid hspec
      clear hspec hx hc
      obtain ⟨op, a, b', c', kk⟩ := x
      dsimp only at d0 d1 d2 d3 d4
      by_cases t0 : op < 1
      · have HX := Lib.hid (show formedI ⟨op, a, b', c', kk⟩ = false from Bool.eq_false_iff.2 (fun h => by have := (formedI_iff _).1 h; dsimp only at this; omega))
        go_wp2_with fail
        go_ret
        exact ⟨ret_nb (by rw [HF.out, H.out, HX.out]; simp), keep_alloc hB _⟩
      by_cases t1 : 17 < op
      · have HX := Lib.hid (show formedI ⟨op, a, b', c', kk⟩ = false from Bool.eq_false_iff.2 (fun h => by have := (formedI_iff _).1 h; dsimp only at this; omega))
        go_wp2_with fail
        go_ret
        exact ⟨ret_nb (by rw [HF.out, H.out, HX.out]; simp), keep_alloc hB _⟩
      by_cases t2 : a < 0
      · have HX := Lib.hid (show formedI ⟨op, a, b', c', kk⟩ = false from Bool.eq_false_iff.2 (fun h => by have := (formedI_iff _).1 h; dsimp only at this; omega))
        go_wp2_with fail
        go_ret
        exact ⟨ret_nb (by rw [HF.out, H.out, HX.out]; simp), keep_alloc hB _⟩
      by_cases t3 : 7 < a
      · have HX := Lib.hid (show formedI ⟨op, a, b', c', kk⟩ = false from Bool.eq_false_iff.2 (fun h => by have := (formedI_iff _).1 h; dsimp only at this; omega))
        go_wp2_with fail
        go_ret
        exact ⟨ret_nb (by rw [HF.out, H.out, HX.out]; simp), keep_alloc hB _⟩
      by_cases t4 : c' < 0
      · have HX := Lib.hid (show formedI ⟨op, a, b', c', kk⟩ = false from Bool.eq_false_iff.2 (fun h => by have := (formedI_iff _).1 h; dsimp only at this; omega))
        go_wp2_with fail
        go_ret
        exact ⟨ret_nb (by rw [HF.out, H.out, HX.out]; simp), keep_alloc hB _⟩
      by_cases t5 : 7 < c'
      · have HX := Lib.hid (show formedI ⟨op, a, b', c', kk⟩ = false from Bool.eq_false_iff.2 (fun h => by have := (formedI_iff _).1 h; dsimp only at this; omega))
        go_wp2_with fail
        go_ret
        exact ⟨ret_nb (by rw [HF.out, H.out, HX.out]; simp), keep_alloc hB _⟩
      by_cases t6 : b' < 0
      · have HX := Lib.hid (show formedI ⟨op, a, b', c', kk⟩ = false from Bool.eq_false_iff.2 (fun h => by have := (formedI_iff _).1 h; dsimp only at this; omega))
        go_wp2_with fail
        go_ret
        exact ⟨ret_nb (by rw [HF.out, H.out, HX.out]; simp), keep_alloc hB _⟩
      by_cases t7 : 255 < b'
      · have HX := Lib.hid (show formedI ⟨op, a, b', c', kk⟩ = false from Bool.eq_false_iff.2 (fun h => by have := (formedI_iff _).1 h; dsimp only at this; omega))
        go_wp2_with fail
        go_ret
        exact ⟨ret_nb (by rw [HF.out, H.out, HX.out]; simp), keep_alloc hB _⟩
      have HX := Lib.hid (show formedI ⟨op, a, b', c', kk⟩ = true from (formedI_iff _).2 (by dsimp only; omega))
      go_wp2_with fail
      go_roundw
      case rel => exact ⟨k + 1, by omega, by go_num, keep_alloc hb _, by rw [H.out, HX.out, Bool.true_and]⟩
      case measure => simp [intOf]; omega
    · rw [drop_end HL.out hlt, List.all_nil] at hspec
      have H := Lib.hid hspec
      clear hspec
      by_cases t0 : g < 0
      · go_wp2_with fail
        go_ret
        exact ⟨ret_nb (by rw [HF.out, H.out]; simp; omega), hB⟩
      by_cases t1 : 3 < g
      · go_wp2_with fail
        go_ret
        exact ⟨ret_nb (by rw [HF.out, H.out]; simp; omega), hB⟩
      by_cases t2 : n ≤ 256
      · have hd : decide ((n : Int) ≤ 256) = true := by simp; omega
        have HN := Lib.hid t2
        clear t2
        go_wp2_with fail
        go_ret
        exact ⟨ret_nb (by have := HN.out; rw [HF.out, H.out]; simp; omega), hB⟩
      · have hd : decide ((n : Int) ≤ 256) = false := by simp; omega
        have HN := Lib.hid t2
        clear t2
        go_wp2_with fail
        go_ret
        exact ⟨ret_nb (by have := HN.out; rw [HF.out, H.out]; simp; omega), hB⟩
end Go.Proofs.Ytpmdgmgcbminaaa

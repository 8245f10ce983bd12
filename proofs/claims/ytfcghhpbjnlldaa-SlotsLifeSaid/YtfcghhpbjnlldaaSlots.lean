/- Tables of handles: entries, what a table reads as, and the contracts of slots.Valid and of its reference. -/
import Derived.Test.YtfcghhpbjnlldaaOpen
import Derived.Test.YtfcghhpbjnlldaaNum
import Derived.WalkSpells
import Derived.BigQuiet
import Derived.Deep.QuietTactic
namespace Go.Proofs.Ytfcghhpbjnlldaa
open Go.ChangeShapes Go.WideShapes Go.RowKit Words

structure Ent where
  gen : Int
  ref : BitVec 64
  live : Bool
deriving DecidableEq
def entCells (x : Ent) : List Value := [.int .i64 x.gen, .int .u64 (U x.ref), .bool x.live]
abbrev entV (x : Ent) : Value := .agg #[.int .i64 x.gen, .int .u64 (U x.ref), .bool x.live]
abbrev tabV (A : Option Addr) (n c : Nat) : Value := .agg #[.slice A n c]
theorem entCells_len (x : Ent) : (entCells x).length = 3 := rfl
theorem entCells_one (l : List Ent) : ∀ u ∈ l.flatMap entCells, u.oneCell' = true := by
  intro u hu
  rw [List.mem_flatMap] at hu
  obtain ⟨x, _, hx⟩ := hu
  simp only [entCells, List.mem_cons, List.not_mem_nil, or_false] at hx
  rcases hx with rfl | rfl | rfl <;> rfl
def Ent.ok64 (x : Ent) : Prop := -9223372036854775808 ≤ x.gen ∧ x.gen ≤ 9223372036854775807

theorem ret_b {x y : Bool} (h : x = y) : Ending.returned (.bool x) = .returned (.bool y) := by rw [h]
theorem tyEnts : SlTy Try.prog 22 30 3 24 := SlTy.mk' (z := .agg #[.int .i64 0, .int .u64 0, .bool false]) Try.underlying22 (by kernel_rfl) rfl (by omega)
theorem tyWords : SlTy Try.prog 35 28 1 8 := SlTy.mk' (z := .int .u64 0) Try.underlying35 (by kernel_rfl) rfl (by omega)

section
variable {H : Type} {enc : TypeId × Value → H} {w : World} {base b : Nat} {spare : Nat → Bool} {held : Bool}
theorem cells_ent {n : Nat} {cs : List Value} {y : DataW H × List MemPlace} (h : DataW.trod enc Try.prog w base spare held n 30 cs = some y) : ∃ x : Ent, cs = entCells x ∧ x.ok64 := by
  obtain ⟨hl, hf⟩ := cells_struct Try.underlying30 (by kernel_rfl) (by kernel_rfl) h
  obtain ⟨v0, m0, z0, e0, t0⟩ := hf 0 _ rfl
  obtain ⟨v1, m1, z1, e1, t1⟩ := hf 1 _ rfl
  obtain ⟨v2, m2, z2, e2, t2⟩ := hf 2 _ rfl
  obtain ⟨a, ha, hra⟩ := cells_i64 Try.underlying3 t0
  obtain ⟨x, hx⟩ := cells_word Try.underlying28 t1
  obtain ⟨q, hq, _⟩ := DataW.trod_bool Try.underlying4 t2
  simp only [List.cons.injEq, and_true] at ha hx hq
  subst ha hx hq
  exact ⟨⟨a, x, q⟩, list3 hl e0 e1 e2, hra⟩
theorem cells_tab {n : Nat} {cs : List Value} {y : DataW H × List MemPlace} (h : DataW.trod enc Try.prog w base spare held n 24 cs = some y) :
    ∃ A n c, ∃ l : List Ent, cs = [.slice A n c] ∧ Reads w w.heap.size 3 A n c (l.flatMap entCells) ∧ ∀ x ∈ l, x.ok64 := by
  obtain ⟨hl, hf⟩ := cells_struct Try.underlying24 (by kernel_rfl) (by kernel_rfl) h
  obtain ⟨v0, m0, z0, e0, t0⟩ := hf 0 _ rfl
  obtain ⟨A, n, c, l, h1, h2, h3⟩ := cells_seq entCells Ent.ok64 Try.underlying22 (by kernel_rfl) (by omega) (fun n cs' y hy => cells_ent hy) entCells_len t0
  simp only [List.cons.injEq, and_true] at h1
  subst h1
  refine ⟨A, n, c, l, ?_, h2, h3⟩
  have hl1 : cs.length = 1 := hl
  match cs, hl1 with
  | [_], _ => simp_all
theorem open_tab {v : Value} {d : DataW H} {ps : List MemPlace} (hv : Value.okWide Try.prog w .any b 24 v) (h : DataW.Trod enc Try.prog w base spare held 24 v d ps) :
    ∃ A n c, ∃ l : List Ent, v = tabV A n c ∧ Reads w w.heap.size 3 A n c (l.flatMap entCells) ∧ ∀ x ∈ l, x.ok64 := by
  obtain ⟨cs, rfl, _⟩ := okWide_struct Try.underlying24 hv
  obtain ⟨fuel, hf⟩ := h
  obtain ⟨A, n, c, l, he, h1, h2⟩ := cells_tab hf
  refine ⟨A, n, c, l, ?_, h1, h2⟩
  simp only [Value.cells] at he
  rw [← Array.toArray_toList (xs := cs), he]
end

/-- an entry that no consistent table has -/
def badE (x : Ent) : Bool := decide (x.gen < 1) || decide (4294967295 < x.gen) || (!x.live && x.ref != 0#64)
def validT (l : List Ent) : Bool := decide (l.length ≤ 64) && !l.any badE

set_option maxRecDepth 100000 in
theorem bad_any (x : Ent) (w : World) :
    Calls Try.prog 28 #[entV x] w fun e w' => e = .returned (.bool (badE x)) ∧ Below w.heap.size w w' := by
  obtain ⟨g, r, l⟩ := x
  by_cases t0 : g < 1
  · have HV := Lib.hid (show badE ⟨g, r, l⟩ = true by simp [badE, t0])
    go_enter Try.func28, Try.ntmps28
    go_wp2
    go_ret
    exact ⟨ret_b HV.out.symm, by go_grown⟩
  by_cases t1 : 4294967295 < g
  · have HV := Lib.hid (show badE ⟨g, r, l⟩ = true by simp [badE, t1])
    have e1 : decide ((4294967295 : Int) < g) = true := decide_eq_true t1
    clear t1
    go_enter Try.func28, Try.ntmps28
    go_wp2
    go_ret
    exact ⟨ret_b HV.out.symm, by go_grown⟩
  have e1 : decide ((4294967295 : Int) < g) = false := decide_eq_false t1
  cases l
  · have hu : (U r != 0) = (r != 0#64) := U_ne r 0#64
    have HV := Lib.hid (show badE ⟨g, r, false⟩ = (r != 0#64) by simp [badE, t0, t1])
    clear t1
    go_enter Try.func28, Try.ntmps28
    go_wp2
    go_ret
    exact ⟨ret_b HV.out.symm, by go_grown⟩
  · have HV := Lib.hid (show badE ⟨g, r, true⟩ = false by simp [badE, t0, t1])
    clear t1
    go_enter Try.func28, Try.ntmps28
    go_wp2
    go_ret
    exact ⟨ret_b HV.out.symm, by go_grown⟩

/-- the place of the first bad entry, or -1 -/
def badAt : List Ent → Int → Int
  | [], _ => -1
  | x :: r, i => if badE x then i else badAt r (i + 1)
theorem badAt_ge (l : List Ent) (i : Int) (hi : 0 ≤ i) : decide (0 ≤ badAt l i) = l.any badE := by
  induction l generalizing i with
  | nil => rfl
  | cons x r ih =>
    unfold badAt
    rw [List.any_cons]
    by_cases h : badE x = true
    · rw [if_pos h, h, Bool.true_or, decide_eq_true hi]
    · rw [if_neg h, ih _ (by omega)]
      simp only [Bool.not_eq_true] at h
      rw [h, Bool.false_or]

theorem indexFunc_any (A : Option Addr) (n c : Nat) (l : List Ent) (w : World) (h : Reads w w.heap.size 3 A n c (l.flatMap entCells)) :
    Calls Try.prog 32 #[.slice A n c, .func (.func 28) #[] #[]] w fun e w' => e = .returned (.int .i64 (badAt l 0)) ∧ Below w.heap.size w w' := by
  have hlen := h.length entCells_len (by omega)
  have hcap := h.cap
  have hle := h.le
  unfold maxLen at hcap
  have HL := Lib.hid hlen
  clear hlen
  go_enter Try.func32, Try.ntmps32
  go_wp2_with fail
  go_loopw [8] (fun x wq => ∃ k : Nat, k ≤ n ∧ x = .int .i64 k ∧ Below w.heap.size w wq ∧ badAt l 0 = badAt (l.drop k) k) (fun x _ => n - (intOf x).toNat)
  case atStart => exact ⟨0, Nat.zero_le _, rfl, Below.refl _ _, rfl⟩
  case round =>
    obtain ⟨k, hk, rfl, hb, hspec⟩ := hrel
    by_cases hlt : k < n
    · obtain ⟨b, off, x, rfl, hbb, hx, hc⟩ := (h.below hb).elem entCells_len (by omega) hlt
      have c0 := hc 0 _ rfl
      have c1 := hc 1 _ rfl
      have c2 := hc 2 _ rfl
      rw [Nat.add_zero] at c0
      rw [drop_at hx, badAt] at hspec
      have hk0 : (0 : Int) ≤ (k : Int) := by omega
      have hk1 : (k : Int) < (n : Int) := by omega
      have hsz := hb.size
      by_cases hbad : badE x = true
      · rw [if_pos hbad] at hspec
        have H := Lib.hid hspec
        have HB := Lib.hid hbad
        clear hspec hx hc hbad
        go_wp2_with fail
        refine (bad_any x _).mono ?_
        rintro e w' ⟨rfl, hb'⟩
        rw [HB.out]
        go_wp2_with fail
        go_ret
        exact ⟨by rw [H.out]; rfl, keep_below hb' hb⟩
      · rw [if_neg hbad] at hspec
        simp only [Bool.not_eq_true] at hbad
        have H := Lib.hid hspec
        have HB := Lib.hid hbad
        clear hspec hx hc hbad
        go_wp2_with fail
        refine (bad_any x _).mono ?_
        rintro e w' ⟨rfl, hb'⟩
        rw [HB.out]
        go_wp2_with fail
        go_roundw
        case rel => exact ⟨k + 1, by omega, by go_num, keep_below hb' hb, H.out⟩
        case measure => simp [intOf]; omega
    · rw [drop_end HL.out hlt, badAt] at hspec
      have H := Lib.hid hspec
      clear hspec
      go_wp2_with fail
      go_ret
      exact ⟨by rw [H.out]; rfl, hb⟩

theorem containsFunc_any (A : Option Addr) (n c : Nat) (l : List Ent) (w : World) (h : Reads w w.heap.size 3 A n c (l.flatMap entCells)) :
    Calls Try.prog 27 #[.slice A n c, .func (.func 28) #[] #[]] w fun e w' => e = .returned (.bool (l.any badE)) ∧ Below w.heap.size w w' := by
  have hge := badAt_ge l 0 (Int.le_refl _)
  obtain ⟨q, hq⟩ : ∃ q, badAt l 0 = q := ⟨_, rfl⟩
  rw [hq] at hge
  have HQ := Lib.hid hq
  have HG := Lib.hid hge
  clear hq hge
  go_enter Try.func27, Try.ntmps27
  go_wp2_with fail
  refine (indexFunc_any A n c l _ h).mono ?_
  rw [HQ.out]
  rintro e w' ⟨rfl, hb⟩
  go_wp2_with fail
  go_ret
  exact ⟨ret_b HG.out, hb⟩

theorem valid_any (A : Option Addr) (n c : Nat) (l : List Ent) (w : World) (h : Reads w w.heap.size 3 A n c (l.flatMap entCells)) :
    Calls Try.prog 10 #[tabV A n c] w fun e w' => e = .returned (.bool (validT l)) ∧ Below w.heap.size w w' := by
  have hlen := h.length entCells_len (by omega)
  have ha := (h.alloc (Nat.le_refl _) (.cells #[.slice A n c] 24)).more (B' := (w.alloc (.cells #[.slice A n c] 24)).heap.size) (by simp)
  by_cases hn : n ≤ 64
  · have HV := Lib.hid (show validT l = !l.any badE by unfold validT; rw [hlen, decide_eq_true hn, Bool.true_and])
    have hd : decide ((n : Int) ≤ 64) = true := by simp; omega
    clear hlen hn
    go_enter Try.func10, Try.ntmps10
    go_wp2_with fail
    refine (containsFunc_any A n c l _ ha).mono ?_
    rintro e w' ⟨rfl, hb⟩
    go_wp2_with fail
    go_ret
    exact ⟨ret_b HV.out.symm, (keep_alloc (Below.refl _ _) _).trans (hb.mono (by simp))⟩
  · have HV := Lib.hid (show validT l = false by unfold validT; rw [hlen, decide_eq_false hn, Bool.false_and])
    have hd : decide ((n : Int) ≤ 64) = false := by simp; omega
    clear hlen hn
    go_enter Try.func10, Try.ntmps10
    go_wp2_with fail
    go_ret
    exact ⟨ret_b HV.out.symm, keep_alloc (Below.refl _ _) _⟩

theorem light_any (A : Option Addr) (n c : Nat) (w : World) : Calls Try.prog 9 #[tabV A n c] w fun e w' => e = .returned (.bool (decide (n ≤ 200))) ∧ Below w.heap.size w w' := by
  by_cases h : n ≤ 200
  · have hd : decide ((n : Int) ≤ 200) = true := by simp; omega
    have HV := Lib.hid (decide_eq_true h)
    clear h
    go_enter Try.func9, Try.ntmps9
    go_wp2_with fail
    go_ret
    exact ⟨ret_b HV.out.symm, keep_alloc (Below.refl _ _) _⟩
  · have hd : decide ((n : Int) ≤ 200) = false := by simp; omega
    have HV := Lib.hid (decide_eq_false h)
    clear h
    go_enter Try.func9, Try.ntmps9
    go_wp2_with fail
    go_ret
    exact ⟨ret_b HV.out.symm, keep_alloc (Below.refl _ _) _⟩
end Go.Proofs.Ytfcghhpbjnlldaa

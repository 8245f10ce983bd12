/- The walk of BitsPacks. -/
import Derived.Test.YtcjmaodfeokbaaaAwake
import Derived.Test.YtcjmaodfeokbaaaFields
namespace Go.Proofs.Ytcjmaodfeokbaaa
open Go.ChangeShapes Go.WideShapes Go.RowKit Words

theorem cells_field {H : Type} {enc : TypeId × Value → H} {w : World} {base n : Nat} {spare : Nat → Bool} {held : Bool} {cs : List Value} {y : DataW H × List MemPlace}
    (h : DataW.trod enc Try.prog w base spare held n 46 cs = some y) : ∃ p : Int × BitVec 64, cs = fieldCells p ∧ -9223372036854775808 ≤ p.1 ∧ p.1 ≤ 9223372036854775807 := by
  obtain ⟨hl, hf⟩ := cells_struct Try.underlying46 (by kernel_rfl) (by kernel_rfl) h
  obtain ⟨v0, m0, z0, e0, t0⟩ := hf 0 _ rfl
  obtain ⟨v1, m1, z1, e1, t1⟩ := hf 1 _ rfl
  obtain ⟨a, ha, hr⟩ := cells_i64 Try.underlying3 t0
  obtain ⟨x, hx⟩ := cells_word Try.underlying23 t1
  simp only [List.cons.injEq, and_true] at ha hx
  subst ha hx
  exact ⟨(a, x), list2 hl e0 e1, hr⟩

theorem open_fields {H : Type} {enc : TypeId × Value → H} {w : World} {base b : Nat} {spare : Nat → Bool} {held : Bool} {v : Value} {d : DataW H} {ps : List MemPlace}
    (hv : Value.okWide Try.prog w .any b 26 v) (h : DataW.Trod enc Try.prog w base spare held 26 v d ps) :
    ∃ A n c, ∃ l : List (Int × BitVec 64), v = .slice A n c ∧ Reads w w.heap.size 2 A n c (l.flatMap fieldCells) ∧ ∀ p ∈ l, -9223372036854775808 ≤ p.1 ∧ p.1 ≤ 9223372036854775807 :=
  open_seq fieldCells (fun p => -9223372036854775808 ≤ p.1 ∧ p.1 ≤ 9223372036854775807) Try.underlying26 (by kernel_rfl) (by omega) (fun _ _ _ hy => cells_field hy) (fun _ => rfl) hv h

theorem walkBitsPacks {H : Type} {enc : TypeId × Value → H} (W : World) (base : Nat) {v0 : Value} {d0 : DataW H} {p0 : List MemPlace}
    (o0 : Value.okWide Try.prog W .any base 26 v0) (h0 : DataW.Trod enc Try.prog W 0 (fun _ => true) true 26 v0 d0 p0) :
    Calls Try.prog 4 #[v0] W fun e w' => e = .returned (.bool true) ∧ Below W.heap.size W w' := by
  obtain ⟨A, n, c, l, rfl, hr, _⟩ := open_fields o0 h0
  clear h0 o0
  have hcap := hr.cap
  have hle := hr.le
  unfold maxLen at hcap
  by_cases hn : 100 < n
  · go_enter Try.func4, Try.ntmps4
    go_wp2_with fail
    go_ret
    exact ⟨rfl, Below.refl _ _⟩
  · go_enter Try.func4, Try.ntmps4
    go_wp2_with fail
    refine (fields_any A n c l _ hr (by omega)).mono ?_
    rintro e w1 ⟨A1, c1, rfl, hr1, hb1⟩
    go_wp2_with fail
    refine (pack_any _ _ _ _ _ hr1).mono ?_
    rintro e w2 ⟨rfl, hb2⟩
    unfold retW
    have hr2 := hr.belowU (hb1.trans (hb2.mono hb1.size))
    go_wp2_with fail
    refine (rpack_any _ _ _ _ _ hr2 (by omega)).mono ?_
    rintro e w3 ⟨rfl, hb3⟩
    unfold retW
    go_wp2_with fail
    refine (awake_any _).mono ?_
    rintro e w4 ⟨rfl, hb4⟩
    go_wp2
    go_ret
    have s1 := hb1.size
    have s2 := hb2.size
    have s3 := hb3.size
    exact ⟨rfl, ((hb1.trans (hb2.mono s1)).trans (hb3.mono (by omega))).trans (hb4.mono (by omega))⟩
end Go.Proofs.Ytcjmaodfeokbaaa

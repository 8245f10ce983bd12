/- The sanity check of the laws on headers; headers that come in. -/
import Derived.Test.YtcnlfokgofmnkaaHead
import Derived.Test.YtcnlfokgofmnkaaOpen
namespace Go.Proofs.Ytcnlfokgofmnkaa
open Go.ChangeShapes Go.WideShapes Go.RowKit Words

theorem hawake_any (w : World) : Calls Try.prog 11 #[] w fun e w' => e = .returned (.bool true) ∧ Below w.heap.size w w' := by
  have hp : encH 1 2 2 = (131109#64, 0) := by decide
  have HP := Lib.hid hp
  clear hp
  go_enter Try.func11, Try.ntmps11
  go_wp2_with fail
  refine (encode_any _ _ _ _ (by omega) (by omega)).mono ?_
  rintro e w' ⟨rfl, hb⟩
  rw [HP.out]
  unfold retW
  have hu : (U 131109#64 == 131109) = true := rfl
  go_wp2_with fail
  go_ret
  exact ⟨rfl, hb⟩

theorem u32_range {n : Int} (h : (Lit.int .u32 n).wf = true) : 0 ≤ n ∧ n ≤ 4294967295 := by
  simp [Lit.wf, IntKind.min, IntKind.max, IntKind.signed, IntKind.bits] at h
  omega
theorem cells_head {H : Type} {enc : TypeId × Value → H} {w : World} {base n : Nat} {spare : Nat → Bool} {held : Bool} {cs : List Value} {y : DataW H × List MemPlace}
    (h : DataW.trod enc Try.prog w base spare held n 24 cs = some y) : ∃ k len m : Int, cs = [.int .i64 k, .int .i64 len, .int .u32 m] ∧ (-9223372036854775808 ≤ k ∧ k ≤ 9223372036854775807) ∧ (-9223372036854775808 ≤ len ∧ len ≤ 9223372036854775807) ∧ 0 ≤ m ∧ m ≤ 4294967295 := by
  obtain ⟨hl, hf⟩ := cells_struct Try.underlying24 (by kernel_rfl) (by kernel_rfl) h
  obtain ⟨v0, m0, z0, e0, t0⟩ := hf 0 _ rfl
  obtain ⟨v1, m1, z1, e1, t1⟩ := hf 1 _ rfl
  obtain ⟨v2, m2, z2, e2, t2⟩ := hf 2 _ rfl
  obtain ⟨a, ha, hra⟩ := cells_i64 Try.underlying3 t0
  obtain ⟨b, hb, hrb⟩ := cells_i64 Try.underlying3 t1
  obtain ⟨c, hc, _, hrc⟩ := DataW.trod_int Try.underlying22 t2
  simp only [List.cons.injEq, and_true] at ha hb hc
  subst ha hb hc
  exact ⟨a, b, c, list3 hl e0 e1 e2, hra, hrb, u32_range hrc⟩
theorem open_head {H : Type} {enc : TypeId × Value → H} {w : World} {base b : Nat} {spare : Nat → Bool} {held : Bool} {v : Value} {d : DataW H} {ps : List MemPlace}
    (hv : Value.okWide Try.prog w .any b 24 v) (h : DataW.Trod enc Try.prog w base spare held 24 v d ps) :
    ∃ k len m : Int, v = headV k len m ∧ (-9223372036854775808 ≤ k ∧ k ≤ 9223372036854775807) ∧ (-9223372036854775808 ≤ len ∧ len ≤ 9223372036854775807) ∧ 0 ≤ m ∧ m ≤ 4294967295 := by
  obtain ⟨cs, rfl, _⟩ := okWide_struct Try.underlying24 hv
  obtain ⟨fuel, hf⟩ := h
  obtain ⟨k, len, m, he, h1, h2, h3⟩ := cells_head hf
  refine ⟨k, len, m, ?_, h1, h2, h3⟩
  simp only [Value.cells] at he
  rw [← Array.toArray_toList (xs := cs), he]
end Go.Proofs.Ytcnlfokgofmnkaa

/- The walk of HandleDecodes. -/
import Derived.Test.YtfbbipdamkkhcaaDoorHandle4
namespace Go.Proofs.YtfbbipdamkkhcaaDoor
open Go.ChangeShapes Go.WideShapes Go.RowKit Words

theorem walkHandleDecodes {H : Type} {enc : TypeId × Value → H} (W : World) (base : Nat) (hT : Tab W) {v0 : Value} {d0 : DataW H} {p0 : List MemPlace}
    (o0 : Value.okWide Tryd.prog W .any base 24 v0) (h0 : DataW.Trod enc Tryd.prog W 0 (fun _ => true) true 24 v0 d0 p0) :
    Calls Tryd.prog 4 #[v0] W fun e w' => e = .returned (.bool true) ∧ Below W.heap.size W w' := by
  obtain ⟨x, rfl⟩ := open_word Tryd.underlying24 o0 h0
  clear h0 o0
  obtain ⟨k, len, m, b, hr⟩ : ∃ (k len m b : Int), retD x = retH k len m b := by
    unfold retD; split
    · exact ⟨_, _, _, _, rfl⟩
    · split
      · exact ⟨_, _, _, _, rfl⟩
      · exact ⟨_, _, _, _, rfl⟩
  have HR := Lib.hid hr
  clear hr
  go_enter Tryd.func4, Tryd.ntmps4
  go_wp2_with fail
  refine (decode_any x _ hT).mono ?_
  rw [HR.out]
  rintro e w1 ⟨rfl, hb1⟩
  unfold retH
  have T1 := (hT.below hb1).alloc (.cells #[.int .i64 k, .int .i64 len, .int .i64 m] 23)
  go_wp2_with fail
  have B1 := Blk.new w1 #[.int .i64 k, .int .i64 len, .int .i64 m] 23
  refine (rdecode_any x _).mono ?_
  rw [HR.out]
  rintro e w2 ⟨rfl, hb2⟩
  unfold retH
  have T2 := (T1.below hb2).alloc (.cells #[.int .i64 k, .int .i64 len, .int .i64 m] 23)
  have B2 := (B1.below hb2).alloc (.cells #[.int .i64 k, .int .i64 len, .int .i64 m] 23)
  have B3 := Blk.new w2 #[.int .i64 k, .int .i64 len, .int .i64 m] 23
  have s1 := hb1.size
  have s2 := hb2.size
  simp at s2
  have hB2 : Below W.heap.size W w2 := (hb1.alloc s1 _).trans (hb2.mono (by simp; omega))
  clear hb1 hb2 B1
  go_wp2_with fail
  refine (hawake_any _ T2).mono ?_
  rintro e w3 ⟨rfl, hb3⟩
  have C1 := B2.below hb3
  have C2 := B3.below hb3
  have c0 : w3.cell? ⟨w1.heap.size, 0, none⟩ = some (.int .i64 k) := C1.cell 0 _ rfl
  have c1 : w3.cell? ⟨w1.heap.size, 1, none⟩ = some (.int .i64 len) := C1.cell 1 _ rfl
  have c2 : w3.cell? ⟨w1.heap.size, 2, none⟩ = some (.int .i64 m) := C1.cell 2 _ rfl
  have e0 : w3.cell? ⟨w2.heap.size, 0, none⟩ = some (.int .i64 k) := C2.cell 0 _ rfl
  have e1 : w3.cell? ⟨w2.heap.size, 1, none⟩ = some (.int .i64 len) := C2.cell 1 _ rfl
  have e2 : w3.cell? ⟨w2.heap.size, 2, none⟩ = some (.int .i64 m) := C2.cell 2 _ rfl
  clear B2 B3 C1 C2
  go_wp2
  go_ret
  have s3 := hB2.size
  exact ⟨rfl, (hB2.alloc s3 _).trans (hb3.mono (by simp; omega))⟩
end Go.Proofs.YtfbbipdamkkhcaaDoor

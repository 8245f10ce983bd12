/- The walk of HeaderEncodes. -/
import Derived.Test.YtcnlfokgofmnkaaHAwake
import Derived.Deep.RegionHeld3
namespace Go.Proofs.Ytcnlfokgofmnkaa
open Go.ChangeShapes Go.WideShapes Go.RowKit Words

theorem walkHeaderEncodes {H : Type} {enc : TypeId × Value → H} (W : World) (base : Nat) {v0 : Value} {d0 : DataW H} {p0 : List MemPlace}
    (o0 : Value.okWide Try.prog W .any base 24 v0) (h0 : DataW.Trod enc Try.prog W 0 (fun _ => true) true 24 v0 d0 p0) :
    Calls Try.prog 3 #[v0] W fun e w' => e = .returned (.bool true) ∧ Below W.heap.size W w' := by
  obtain ⟨k, len, m, rfl, _, _, hm0, hm1⟩ := open_head o0 h0
  clear h0 o0
  obtain ⟨y, er, hf⟩ : ∃ y er, encH k len m = (y, er) := by
    rcases encH k len m with ⟨z, er⟩
    exact ⟨z, er, rfl⟩
  have HE := Lib.hid hf
  have M0 := Lib.hid hm0
  have M1 := Lib.hid hm1
  clear hf hm0 hm1
  go_enter Try.func3, Try.ntmps3
  go_wp2_with fail
  have B0 := Blk.new W #[.int .i64 k, .int .i64 len, .int .u32 m] 24
  refine (encode_any k len m _ M0.out M1.out).mono ?_
  rw [HE.out]
  rintro e w1 ⟨rfl, hb1⟩
  unfold retW
  have B1 := B0.below hb1
  clear B0
  have c0 : w1.cell? ⟨W.heap.size, 0, none⟩ = some (.int .i64 k) := B1.cell 0 _ rfl
  have c1 : w1.cell? ⟨W.heap.size, 1, none⟩ = some (.int .i64 len) := B1.cell 1 _ rfl
  have c2 : w1.cell? ⟨W.heap.size, 2, none⟩ = some (.int .u32 m) := B1.cell 2 _ rfl
  go_wp2_with fail
  refine (rencode_any k len m _ M0.out M1.out).mono ?_
  rw [HE.out]
  rintro e w2 ⟨rfl, hb2⟩
  unfold retW
  have B2 := B1.below hb2
  clear B1 c0 c1 c2
  have c0 : w2.cell? ⟨W.heap.size, 0, none⟩ = some (.int .i64 k) := B2.cell 0 _ rfl
  have c1 : w2.cell? ⟨W.heap.size, 1, none⟩ = some (.int .i64 len) := B2.cell 1 _ rfl
  have c2 : w2.cell? ⟨W.heap.size, 2, none⟩ = some (.int .u32 m) := B2.cell 2 _ rfl
  have hB : Below W.heap.size W w2 := by repeat (first | exact Below.refl _ _ | assumption | refine keep_alloc ?_ _ | refine keep_below (by assumption) ?_)
  clear hb1 hb2 B2
  go_wp2_with fail
  go_region_held3 (fun w' => w'.cell? ⟨W.heap.size, 0, none⟩ = some (.int .i64 k) ∧ w'.cell? ⟨W.heap.size, 1, none⟩ = some (.int .i64 len) ∧ w'.cell? ⟨W.heap.size, 2, none⟩ = some (.int .u32 m) ∧ Below W.heap.size W w')
    (first | (go_split_ands; refine ⟨?_, ?_, ?_, ?_⟩ <;> first | assumption | (refine keep_cell hb ?_; assumption) | (refine keep_below hb ?_; assumption) | (refine Below.drew ?_; assumption)) | go_keep)
    (first
      | (go_at_call 11; refine (hawake_any _).mono ?_; rintro e w' ⟨rfl, hb⟩)
      | (go_at_call 12; refine (valid_any _ _ _ _ M0.out M1.out).mono ?_; rintro e w' ⟨rfl, hb⟩)
      | (go_at_call 13; refine (rvalid_any _ _ _ _ M0.out M1.out).mono ?_; rintro e w' ⟨rfl, hb⟩))
  all_goals
    go_wp2
    go_ret
    exact ⟨rfl, by go_split_ands; assumption⟩
end Go.Proofs.Ytcnlfokgofmnkaa

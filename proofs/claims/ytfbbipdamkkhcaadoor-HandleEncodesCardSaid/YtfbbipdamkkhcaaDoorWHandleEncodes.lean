/- The walk of HandleEncodes. -/
import Derived.Test.YtfbbipdamkkhcaaDoorHandle4
import Derived.Deep.RegionHeld3
namespace Go.Proofs.YtfbbipdamkkhcaaDoor
open Go.ChangeShapes Go.WideShapes Go.RowKit Words

theorem walkHandleEncodes {H : Type} {enc : TypeId × Value → H} (W : World) (base : Nat) (hT : Tab W) {v0 : Value} {d0 : DataW H} {p0 : List MemPlace}
    (o0 : Value.okWide Tryd.prog W .any base 23 v0) (h0 : DataW.Trod enc Tryd.prog W 0 (fun _ => true) true 23 v0 d0 p0) :
    Calls Tryd.prog 3 #[v0] W fun e w' => e = .returned (.bool true) ∧ Below W.heap.size W w' := by
  obtain ⟨t, i, s, rfl, _, hi, hs⟩ := open_hand o0 h0
  clear h0 o0
  obtain ⟨y, er, hf⟩ : ∃ y er, encD t i s = (y, er) := by
    rcases encD t i s with ⟨z, er⟩
    exact ⟨z, er, rfl⟩
  have HE := Lib.hid hf
  have HI := Lib.hid hi
  have HS := Lib.hid hs
  have T0 := Lib.hid (hT.alloc (.cells #[.int .i64 t, .int .i64 i, .int .i64 s] 23))
  clear hf hi hs
  go_enter Tryd.func3, Tryd.ntmps3
  go_wp2_with fail
  have B0 := Blk.new W #[.int .i64 t, .int .i64 i, .int .i64 s] 23
  refine (encode_any t i s _ T0.out HI.out.1 HI.out.2 HS.out.1 HS.out.2).mono ?_
  rw [HE.out]
  rintro e w1 ⟨rfl, hb1⟩
  unfold retW
  have B1 := B0.below hb1
  clear B0
  have c0 : w1.cell? ⟨W.heap.size, 0, none⟩ = some (.int .i64 t) := B1.cell 0 _ rfl
  have c1 : w1.cell? ⟨W.heap.size, 1, none⟩ = some (.int .i64 i) := B1.cell 1 _ rfl
  have c2 : w1.cell? ⟨W.heap.size, 2, none⟩ = some (.int .i64 s) := B1.cell 2 _ rfl
  go_wp2_with fail
  refine (rencode_any t i s _).mono ?_
  rw [HE.out]
  rintro e w2 ⟨rfl, hb2⟩
  unfold retW
  have B2 := B1.below hb2
  clear B1 c0 c1 c2
  have c0 : w2.cell? ⟨W.heap.size, 0, none⟩ = some (.int .i64 t) := B2.cell 0 _ rfl
  have c1 : w2.cell? ⟨W.heap.size, 1, none⟩ = some (.int .i64 i) := B2.cell 1 _ rfl
  have c2 : w2.cell? ⟨W.heap.size, 2, none⟩ = some (.int .i64 s) := B2.cell 2 _ rfl
  have T2 := (T0.out.below hb1).below hb2
  have hB : Below W.heap.size W w2 := by repeat (first | exact Below.refl _ _ | assumption | refine keep_alloc ?_ _ | refine keep_below (by assumption) ?_)
  clear hb1 hb2 B2
  go_wp2_with fail
  go_region_held3 (fun w' => w'.cell? ⟨W.heap.size, 0, none⟩ = some (.int .i64 t) ∧ w'.cell? ⟨W.heap.size, 1, none⟩ = some (.int .i64 i) ∧ w'.cell? ⟨W.heap.size, 2, none⟩ = some (.int .i64 s) ∧ Tab w' ∧ Below W.heap.size W w')
    (first | (go_split_ands; refine ⟨?_, ?_, ?_, ?_, ?_⟩ <;> first | assumption | (refine keep_cell hb ?_; assumption) | (refine Tab.drew ?_; assumption) | (refine Tab.below ?_ hb; assumption) | (refine keep_below hb ?_; assumption) | (refine Below.drew ?_; assumption)) | go_keep)
    (first
      | (go_at_call 9; refine (hawake_any _ (by go_split_ands; assumption)).mono ?_; rintro e w' ⟨rfl, hb⟩)
      | (go_at_call 10; refine (valid_any _ _ _ _ (by go_split_ands; assumption) HI.out.1 HI.out.2 HS.out.1 HS.out.2).mono ?_; rintro e w' ⟨rfl, hb⟩)
      | (go_at_call 11; refine (rvalid_any _ _ _ _).mono ?_; rintro e w' ⟨rfl, hb⟩))
  all_goals
    go_wp2
    go_ret
    exact ⟨rfl, by go_split_ands; assumption⟩
end Go.Proofs.YtfbbipdamkkhcaaDoor

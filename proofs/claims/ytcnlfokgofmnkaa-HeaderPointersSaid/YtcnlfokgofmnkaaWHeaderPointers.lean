/- The walk of HeaderPointers. -/
import Derived.Test.YtcnlfokgofmnkaaHAwake
import Derived.Test.YtcnlfokgofmnkaaPtrs
namespace Go.Proofs.Ytcnlfokgofmnkaa
open Go.ChangeShapes Go.WideShapes Go.RowKit Words

theorem plH_mem (k len m : Int) (j : Nat) (i : Int) (h : i ∈ plH k len m j) : ptrH k len m i = true ∧ 0 ≤ i ∧ i < j := by
  unfold plH at h
  rw [List.mem_filter, List.mem_map] at h
  obtain ⟨⟨a, ha, rfl⟩, hp⟩ := h
  rw [List.mem_range] at ha
  exact ⟨hp, by omega, by omega⟩

set_option maxHeartbeats 1000000 in
theorem walkHeaderPointers {H : Type} {enc : TypeId × Value → H} (W : World) (base : Nat) {v0 v1 : Value} {d0 d1 : DataW H} {p0 p1 : List MemPlace}
    (o0 : Value.okWide Try.prog W .any base 24 v0) (h0 : DataW.Trod enc Try.prog W 0 (fun _ => true) true 24 v0 d0 p0)
    (o1 : Value.okWide Try.prog W .any base 3 v1) (h1 : DataW.Trod enc Try.prog W 0 (fun _ => true) true 3 v1 d1 p1) :
    Calls Try.prog 4 #[v0, v1] W fun e w' => e = .returned (.bool true) ∧ Below W.heap.size W w' := by
  obtain ⟨k, len, m, rfl, _, ⟨hl0, hl1⟩, hm0, hm1⟩ := open_head o0 h0
  obtain ⟨i, rfl, hi0, hi1⟩ := open_i64 Try.underlying3 o1 h1
  clear h0 o0 h1 o1
  have M0 := Lib.hid hm0
  have M1 := Lib.hid hm1
  have B0 := Blk.new W #[.int .i64 k, .int .i64 len, .int .u32 m] 24
  have hmem := plH_mem k len m len.toNat
  obtain ⟨l, hl⟩ : ∃ l, plH k len m len.toNat = l := ⟨_, rfl⟩
  rw [hl] at hmem
  have HL := Lib.hid hl
  have HM := Lib.hid hmem
  clear hm0 hm1 hmem hl
  go_enter Try.func4, Try.ntmps4
  go_wp2_with fail
  refine (pointers_any _ _ _ _ M0.out M1.out).mono ?_
  rw [HL.out]
  rintro e w1 ⟨A, c, rfl, hr, hb⟩
  have B1 := B0.below hb
  have c0 : w1.cell? ⟨W.heap.size, 0, none⟩ = some (.int .i64 k) := B1.cell 0 _ rfl
  have c1 : w1.cell? ⟨W.heap.size, 1, none⟩ = some (.int .i64 len) := B1.cell 1 _ rfl
  have c2 : w1.cell? ⟨W.heap.size, 2, none⟩ = some (.int .u32 m) := B1.cell 2 _ rfl
  have hB : Below W.heap.size W w1 := by repeat (first | exact Below.refl _ _ | assumption | refine keep_alloc ?_ _ | refine keep_below (by assumption) ?_)
  have hle := hr.le
  have hcap := hr.cap
  unfold maxLen at hcap
  clear hb B0
  have HB1 := Lib.hid B1
  clear B1
  obtain ⟨n, hn⟩ : ∃ n, l.length = n := ⟨_, rfl⟩
  rw [hn] at hr hle ⊢
  have HN := Lib.hid hn
  clear hn
  have hq : Below w1.heap.size w1 w1 := Below.refl _ _
  go_wp2_with fail
  go_region_held3 (fun w' => w'.cell? ⟨W.heap.size, 0, none⟩ = some (.int .i64 k) ∧ w'.cell? ⟨W.heap.size, 1, none⟩ = some (.int .i64 len) ∧ w'.cell? ⟨W.heap.size, 2, none⟩ = some (.int .u32 m) ∧ Below w1.heap.size w1 w')
    (first | (go_split_ands; refine ⟨?_, ?_, ?_, ?_⟩ <;> first | assumption | (refine keep_cell hb ?_; assumption) | (refine keep_below hb ?_; assumption) | (refine Below.drew ?_; assumption) | (refine below_drewN ?_ _; assumption)) | go_keep)
    (first
      | (go_at_call 15; refine (size_any _ _ _ _ M0.out M1.out).mono ?_; rintro e w' ⟨rfl, hb⟩)
      | (go_at_call 16; refine (rsize_any _ _ _ _ M0.out M1.out).mono ?_; rintro e w' ⟨rfl, hb⟩)
      | (go_at_call 17; refine (pointer_any _ _ _ _ _ M0.out M1.out hi0 hi1).mono ?_; rintro e w' ⟨rfl, hb⟩)
      | (go_at_call 18; refine (rpointer_any _ _ _ _ _ M0.out M1.out hi0 hi1).mono ?_; rintro e w' ⟨rfl, hb⟩)
      | (go_at_call 20; refine (rpointers_any _ _ _ _ M0.out M1.out).mono ?_; rw [HL.out]; rintro e w' ⟨A2, c2', rfl, hr2, hb⟩)
      | (go_at_call 19; refine (sameInts_any _ _ _ _ _ _ l l _ (by go_split_ands; exact (hr.below (by assumption)).more (Below.size (by assumption))) hr2).mono ?_; rintro e w' ⟨rfl, mm, rfl⟩; rw [decide_eq_true rfl]))
  have hq2 : Below w1.heap.size w1 (w'.drewN mm) := by go_split_ands; assumption
  clear c0 c1 c2 hq
  go_wp2_with fail
  go_loopw [6] (fun i wr => ∃ (j : Nat), j ≤ n ∧ i = .int .i64 j ∧ Below w1.heap.size w1 wr) (fun i _ => n - (intOf i).toNat)
  case atStart => exact ⟨0, Nat.zero_le _, rfl, hq2⟩
  case round =>
    obtain ⟨j, hj, rfl, hbr⟩ := hrel
    clear hq2
    have hsz := hbr.size
    have Br := HB1.out.below hbr
    have c0 : wr.cell? ⟨W.heap.size, 0, none⟩ = some (.int .i64 k) := Br.cell 0 _ rfl
    have c1 : wr.cell? ⟨W.heap.size, 1, none⟩ = some (.int .i64 len) := Br.cell 1 _ rfl
    have c2 : wr.cell? ⟨W.heap.size, 2, none⟩ = some (.int .u32 m) := Br.cell 2 _ rfl
    clear Br
    by_cases hlt : j < n
    · obtain ⟨b, off, a, rfl, hbb, ha, hc⟩ := (hr.below hbr).elem (fun _ => rfl) (by omega) hlt
      have c3 := hc 0 _ rfl
      rw [Nat.mul_one, Nat.add_zero] at c3
      obtain ⟨hp, ha0, ha1⟩ := HM.out a (List.mem_of_getElem? ha)
      clear ha hc
      have hk0 : (0 : Int) ≤ (j : Int) := by omega
      have hk1 : (j : Int) < (n : Int) := by omega
      have r0 : -9223372036854775808 ≤ a := by omega
      have r1 : a ≤ 9223372036854775807 := by omega
      go_wp2_with fail
      go_region_held3 (fun w' => w'.cell? ⟨W.heap.size, 0, none⟩ = some (.int .i64 k) ∧ w'.cell? ⟨W.heap.size, 1, none⟩ = some (.int .i64 len) ∧ w'.cell? ⟨W.heap.size, 2, none⟩ = some (.int .u32 m) ∧ w'.cell? ⟨b, off + j, none⟩ = some (.int .i64 a) ∧ Below w1.heap.size w1 w')
        (first | (go_split_ands; refine ⟨?_, ?_, ?_, ?_, ?_⟩ <;> first | assumption | (refine keep_cell hb ?_; assumption) | (refine keep_below hb ?_; assumption) | (refine Below.drew ?_; assumption)) | go_keep)
        ((go_at_call 17; refine (pointer_any _ _ _ _ _ M0.out M1.out r0 r1).mono ?_; rintro e w' ⟨rfl, hb⟩))
      go_wp2_with fail
      go_roundw
      case rel => exact ⟨j + 1, by omega, by go_num, by go_split_ands; assumption⟩
      case measure => simp [intOf]; omega
    · go_wp2_with fail
      refine (hawake_any _).mono ?_
      rintro e w5 ⟨rfl, hb5⟩
      go_wp2_with fail
      go_ret
      exact ⟨rfl, keep_below hb5 (keep_below hbr hB)⟩
end Go.Proofs.Ytcnlfokgofmnkaa

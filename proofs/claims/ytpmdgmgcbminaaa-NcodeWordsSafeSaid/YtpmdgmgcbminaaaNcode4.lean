/- The contracts of given and told: a program turned from the reference's form into the program's, and back. PRINTED BY A PROGRAM (mk_ncode4.py). -/
import Derived.Test.YtpmdgmgcbminaaaNcode2
namespace Go.Proofs.Ytpmdgmgcbminaaa
open Go.RowKit Words

/-- a program comes back -/
def RetCode (w : World) (g : Int) (l : List NI) (e : Ending) (w' : World) : Prop :=
  ∃ A c, e = .returned (codeV g A l.length c) ∧ Reads w' w'.heap.size 5 A l.length c (l.flatMap insCells) ∧ Below w.heap.size w w'

set_option maxHeartbeats 1000000 in
theorem given_any (g : Int) (A : Option Addr) (n c : Nat) (l : List NI) (w : World) (h : Reads w w.heap.size 5 A n c (l.flatMap insCells)) (hn : n ≤ 1000000) :
    Calls Try.prog 14 #[codeV g A n c] w (RetCode w g l) := by
  have hlen := h.length insCells_len (by omega)
  have hcap := h.cap
  have hle := h.le
  unfold maxLen at hcap
  have hB0 : Below w.heap.size w (((w.alloc (.cells #[.int .i64 g, .slice A n c] 27)).alloc (.cells #[.int .i64 0, .slice none 0 0] 37)).alloc (.cells #[.int .i64 g, .slice none 0 0] 37)) := keep_alloc (keep_alloc (code_alloc w _ g A n c) _) _
  have P0 := ((Blk.new w #[.int .i64 g, .slice A n c] 27).alloc (.cells #[.int .i64 0, .slice none 0 0] 37)).alloc (.cells #[.int .i64 g, .slice none 0 0] 37)
  have R0 := (Blk.newAt (w.alloc (.cells #[.int .i64 g, .slice A n c] 27)) #[.int .i64 0, .slice none 0 0] 37 (w.heap.size + 1) (by simp)).alloc (.cells #[.int .i64 g, .slice none 0 0] 37)
  have O0 := Blk.newAt ((w.alloc (.cells #[.int .i64 g, .slice A n c] 27)).alloc (.cells #[.int .i64 0, .slice none 0 0] 37)) #[.int .i64 g, .slice none 0 0] 37 (w.heap.size + 1 + 1) (by simp)
  have HL := Lib.hid hlen
  have c0 : (w.alloc (.cells #[.int .i64 g, .slice A n c] 27)).cell? ⟨w.heap.size, 0, none⟩ = some (.int .i64 g) := (Blk.new w _ _).cell 0 _ rfl
  clear hlen
  go_enter Try.func14, Try.ntmps14
  go_wp2_with fail
  obtain ⟨w1, hw1⟩ : ∃ w1, (((w.alloc (.cells #[.int .i64 g, .slice A n c] 27)).alloc (.cells #[.int .i64 0, .slice none 0 0] 37)).alloc (.cells #[.int .i64 g, .slice none 0 0] 37)) = w1 := ⟨_, rfl⟩
  have hs1 : w1.heap.size = w.heap.size + 3 := by rw [← hw1]; simp
  rw [hw1] at hB0 P0 R0 O0 ⊢
  have HS1 := Lib.hid hs1
  have h1 := h.below hB0
  clear hw1 hs1 c0
  go_loopw [4] (fun x wq => ∃ (k : Nat) (A' : Option Addr) (c' : Nat), k ≤ n ∧ x = .int .i64 k ∧ wq.ownsRow (w.heap.size + 3) 60 5 (.slice A' k c') k ((l.take k).flatMap insCells) ∧ Blk wq (w.heap.size + 1 + 1) 37 #[.int .i64 g, .slice A' k c'] ∧ Below (w.heap.size + 1 + 1) w1 wq) (fun x _ => n - (intOf x).toNat)
  case atStart => exact ⟨0, none, 0, Nat.zero_le _, rfl, World.ownsRow_nil _ _ _ _, O0, Below.refl _ _⟩
  case round =>
    obtain ⟨k, A', c', hk, rfl, hown, O, hb⟩ := hrel
    have hsz := hb.size
    rw [HS1.out] at hsz
    have P := P0.belowB hb (by omega)
    have q0 : wr.cell? ⟨w.heap.size, 1, none⟩ = some (.slice A n c) := P.cell 1 _ rfl
    have o0 : wr.cell? ⟨w.heap.size + 1 + 1, 0, none⟩ = some (.int .i64 g) := O.cell 0 _ rfl
    have o1 : wr.cell? ⟨w.heap.size + 1 + 1, 1, none⟩ = some (.slice A' k c') := O.cell 1 _ rfl
    by_cases hlt : k < n
    · obtain ⟨b, off, x, rfl, hbb, hx, hc⟩ := (h1.below (hb.mono (by omega))).elem insCells_len (by omega) hlt
      have d0 := hc 0 _ rfl
      have d1 := hc 1 _ rfl
      have d2 := hc 2 _ rfl
      have d3 := hc 3 _ rfl
      have d4 := hc 4 _ rfl
      rw [Nat.add_zero] at d0
      have hk0 : (0 : Int) ≤ (k : Int) := by omega
      have hk1 : (k : Int) < (n : Int) := by omega
      have hsn : (l.take (k + 1)).flatMap insCells = (l.take k).flatMap insCells ++ [.int .i64 x.op, .int .i64 x.a, .int .i64 x.b, .int .i64 x.c, .int .u64 (U x.k)] := by
        rw [take_nx hx, List.flatMap_append]; rfl
      have HS := Lib.hid hsn
      have q1' : k + 1 ≤ maxLen := by unfold maxLen; omega
      have q2' : (k + 1) * 40 ≤ 140737488355328 := by omega
      have hown1 := hown.alloc (.cells #[.int .i64 x.op, .int .i64 x.a, .int .i64 x.b, .int .i64 x.c, .int .u64 (U x.k)] 58)
      have O1 := (O.alloc (.cells #[.int .i64 x.op, .int .i64 x.a, .int .i64 x.b, .int .i64 x.c, .int .u64 (U x.k)] 58)).alloc (.cells #[.int .i64 x.op, .int .i64 x.a, .int .i64 x.b, .int .i64 x.c, .int .u64 (U x.k)] 60)
      have hbA := (hb.alloc (by omega) (.cells #[.int .i64 x.op, .int .i64 x.a, .int .i64 x.b, .int .i64 x.c, .int .u64 (U x.k)] 58)).alloc (by simp; omega) (.cells #[.int .i64 x.op, .int .i64 x.a, .int .i64 x.b, .int .i64 x.c, .int .u64 (U x.k)] 60)
      have o1a : (wr.alloc (.cells #[.int .i64 x.op, .int .i64 x.a, .int .i64 x.b, .int .i64 x.c, .int .u64 (U x.k)] 58)).cell? ⟨w.heap.size + 1 + 1, 1, none⟩ = some (.slice A' k c') := (O.alloc _).cell 1 _ rfl
      have hfr := Reads.freshAt (wr.alloc (.cells #[.int .i64 x.op, .int .i64 x.a, .int .i64 x.b, .int .i64 x.c, .int .u64 (U x.k)] 58)) #[.int .i64 x.op, .int .i64 x.a, .int .i64 x.b, .int .i64 x.c, .int .u64 (U x.k)] 60 5 1 [.int .i64 x.op, .int .i64 x.a, .int .i64 x.b, .int .i64 x.c, .int .u64 (U x.k)] (wr.heap.size + 1) (by simp) rfl rfl (by decide)
      clear hc hx hsn hown
      go_wp2_with (at_builtin; go_loud (refine wpList_app rfl _ _ _ rfl tyNIns rfl (hown1.alloc _) rfl hfr (by simp [Value.oneCell']) q1' q2' (by simp; omega) ?_; intro v' w6 hown' hb'; obtain ⟨A2, c2, rfl, -⟩ := Reads.own hown'; have O2 := O1.belowB hb' (by omega); have p0 : w6.cell? ⟨w.heap.size + 1 + 1, 0, none⟩ = some (.int .i64 g) := O2.cell 0 _ rfl; have p1 : w6.cell? ⟨w.heap.size + 1 + 1, 1, none⟩ = some (.slice A' k c') := O2.cell 1 _ rfl; have fo := O2.free))
      go_roundw
      case rel =>
        refine ⟨k + 1, A2, c2, by omega, by go_num, ?_, O2.set 1 (.slice A2 (k + 1) c2), ?_⟩
        · rw [HS.out]
          exact ownsRow_setCell_below hown' (by show w.heap.size + 1 + 1 < _; omega) _
        · exact (hbA.trans (hb'.mono (by omega))).setCell (by show w.heap.size + 1 + 1 ≤ w.heap.size + 1 + 1; omega) _
      case measure => simp [intOf]; omega
    · have hkn : k = n := by omega
      subst hkn
      rw [List.take_of_length_le (by rw [HL.out]; omega)] at hown
      have R1 := R0.belowB hb (by omega)
      have r0 : wr.cell? ⟨w.heap.size + 1, 0, none⟩ = some (.int .i64 0) := R1.cell 0 _ rfl
      have r1 : wr.cell? ⟨w.heap.size + 1, 1, none⟩ = some (.slice none 0 0) := R1.cell 1 _ rfl
      have fr := R1.free
      have hBr := hB0.trans (hb.mono (show w.heap.size ≤ w.heap.size + 1 + 1 by omega))
      have hown2 := ownsRow_setCell_below (ownsRow_setCell_below hown (a := ⟨w.heap.size + 1, 0, none⟩) (by show w.heap.size + 1 < _; omega) (.int .i64 g)) (a := ⟨w.heap.size + 1, 1, none⟩) (by show w.heap.size + 1 < _; omega) (.slice A' k c')
      obtain ⟨A3, c3, e3, hr3⟩ := Reads.own hown2
      injection e3 with x1 x2 x3
      subst x1 x3
      have HR := Lib.hid hr3
      clear hown hown2 hr3
      go_wp2_with fail
      refine bodyPost_ret (v := codeV g A' k c') (by simp [results, Try.results14, go_sem, r0, r1]) rfl ?_
      exact ⟨A', c', by rw [HL.out], by rw [HL.out]; exact HR.out, (hBr.setCell (by simp) _).setCell (by simp) _⟩

set_option maxHeartbeats 1000000 in
theorem told_any (g : Int) (A : Option Addr) (n c : Nat) (l : List NI) (w : World) (h : Reads w w.heap.size 5 A n c (l.flatMap insCells)) (hn : n ≤ 1000000) :
    Calls Try.prog 20 #[codeV g A n c] w (RetCode w g l) := by
  have hlen := h.length insCells_len (by omega)
  have hcap := h.cap
  have hle := h.le
  unfold maxLen at hcap
  have hB0 : Below w.heap.size w (((w.alloc (.cells #[.int .i64 g, .slice A n c] 37)).alloc (.cells #[.int .i64 0, .slice none 0 0] 27)).alloc (.cells #[.int .i64 g, .slice none 0 0] 27)) := keep_alloc (keep_alloc (code_alloc w _ g A n c) _) _
  have P0 := ((Blk.new w #[.int .i64 g, .slice A n c] 37).alloc (.cells #[.int .i64 0, .slice none 0 0] 27)).alloc (.cells #[.int .i64 g, .slice none 0 0] 27)
  have R0 := (Blk.newAt (w.alloc (.cells #[.int .i64 g, .slice A n c] 37)) #[.int .i64 0, .slice none 0 0] 27 (w.heap.size + 1) (by simp)).alloc (.cells #[.int .i64 g, .slice none 0 0] 27)
  have O0 := Blk.newAt ((w.alloc (.cells #[.int .i64 g, .slice A n c] 37)).alloc (.cells #[.int .i64 0, .slice none 0 0] 27)) #[.int .i64 g, .slice none 0 0] 27 (w.heap.size + 1 + 1) (by simp)
  have HL := Lib.hid hlen
  have c0 : (w.alloc (.cells #[.int .i64 g, .slice A n c] 37)).cell? ⟨w.heap.size, 0, none⟩ = some (.int .i64 g) := (Blk.new w _ _).cell 0 _ rfl
  clear hlen
  go_enter Try.func20, Try.ntmps20
  go_wp2_with fail
  obtain ⟨w1, hw1⟩ : ∃ w1, (((w.alloc (.cells #[.int .i64 g, .slice A n c] 37)).alloc (.cells #[.int .i64 0, .slice none 0 0] 27)).alloc (.cells #[.int .i64 g, .slice none 0 0] 27)) = w1 := ⟨_, rfl⟩
  have hs1 : w1.heap.size = w.heap.size + 3 := by rw [← hw1]; simp
  rw [hw1] at hB0 P0 R0 O0 ⊢
  have HS1 := Lib.hid hs1
  have h1 := h.below hB0
  clear hw1 hs1 c0
  go_loopw [4] (fun x wq => ∃ (k : Nat) (A' : Option Addr) (c' : Nat), k ≤ n ∧ x = .int .i64 k ∧ wq.ownsRow (w.heap.size + 3) 58 5 (.slice A' k c') k ((l.take k).flatMap insCells) ∧ Blk wq (w.heap.size + 1 + 1) 27 #[.int .i64 g, .slice A' k c'] ∧ Below (w.heap.size + 1 + 1) w1 wq) (fun x _ => n - (intOf x).toNat)
  case atStart => exact ⟨0, none, 0, Nat.zero_le _, rfl, World.ownsRow_nil _ _ _ _, O0, Below.refl _ _⟩
  case round =>
    obtain ⟨k, A', c', hk, rfl, hown, O, hb⟩ := hrel
    have hsz := hb.size
    rw [HS1.out] at hsz
    have P := P0.belowB hb (by omega)
    have q0 : wr.cell? ⟨w.heap.size, 1, none⟩ = some (.slice A n c) := P.cell 1 _ rfl
    have o0 : wr.cell? ⟨w.heap.size + 1 + 1, 0, none⟩ = some (.int .i64 g) := O.cell 0 _ rfl
    have o1 : wr.cell? ⟨w.heap.size + 1 + 1, 1, none⟩ = some (.slice A' k c') := O.cell 1 _ rfl
    by_cases hlt : k < n
    · obtain ⟨b, off, x, rfl, hbb, hx, hc⟩ := (h1.below (hb.mono (by omega))).elem insCells_len (by omega) hlt
      have d0 := hc 0 _ rfl
      have d1 := hc 1 _ rfl
      have d2 := hc 2 _ rfl
      have d3 := hc 3 _ rfl
      have d4 := hc 4 _ rfl
      rw [Nat.add_zero] at d0
      have hk0 : (0 : Int) ≤ (k : Int) := by omega
      have hk1 : (k : Int) < (n : Int) := by omega
      have hsn : (l.take (k + 1)).flatMap insCells = (l.take k).flatMap insCells ++ [.int .i64 x.op, .int .i64 x.a, .int .i64 x.b, .int .i64 x.c, .int .u64 (U x.k)] := by
        rw [take_nx hx, List.flatMap_append]; rfl
      have HS := Lib.hid hsn
      have q1' : k + 1 ≤ maxLen := by unfold maxLen; omega
      have q2' : (k + 1) * 40 ≤ 140737488355328 := by omega
      have hown1 := hown.alloc (.cells #[.int .i64 x.op, .int .i64 x.a, .int .i64 x.b, .int .i64 x.c, .int .u64 (U x.k)] 60)
      have O1 := (O.alloc (.cells #[.int .i64 x.op, .int .i64 x.a, .int .i64 x.b, .int .i64 x.c, .int .u64 (U x.k)] 60)).alloc (.cells #[.int .i64 x.op, .int .i64 x.a, .int .i64 x.b, .int .i64 x.c, .int .u64 (U x.k)] 58)
      have hbA := (hb.alloc (by omega) (.cells #[.int .i64 x.op, .int .i64 x.a, .int .i64 x.b, .int .i64 x.c, .int .u64 (U x.k)] 60)).alloc (by simp; omega) (.cells #[.int .i64 x.op, .int .i64 x.a, .int .i64 x.b, .int .i64 x.c, .int .u64 (U x.k)] 58)
      have o1a : (wr.alloc (.cells #[.int .i64 x.op, .int .i64 x.a, .int .i64 x.b, .int .i64 x.c, .int .u64 (U x.k)] 60)).cell? ⟨w.heap.size + 1 + 1, 1, none⟩ = some (.slice A' k c') := (O.alloc _).cell 1 _ rfl
      have hfr := Reads.freshAt (wr.alloc (.cells #[.int .i64 x.op, .int .i64 x.a, .int .i64 x.b, .int .i64 x.c, .int .u64 (U x.k)] 60)) #[.int .i64 x.op, .int .i64 x.a, .int .i64 x.b, .int .i64 x.c, .int .u64 (U x.k)] 58 5 1 [.int .i64 x.op, .int .i64 x.a, .int .i64 x.b, .int .i64 x.c, .int .u64 (U x.k)] (wr.heap.size + 1) (by simp) rfl rfl (by decide)
      clear hc hx hsn hown
      go_wp2_with (at_builtin; go_loud (refine wpList_app rfl _ _ _ rfl tyRIns rfl (hown1.alloc _) rfl hfr (by simp [Value.oneCell']) q1' q2' (by simp; omega) ?_; intro v' w6 hown' hb'; obtain ⟨A2, c2, rfl, -⟩ := Reads.own hown'; have O2 := O1.belowB hb' (by omega); have p0 : w6.cell? ⟨w.heap.size + 1 + 1, 0, none⟩ = some (.int .i64 g) := O2.cell 0 _ rfl; have p1 : w6.cell? ⟨w.heap.size + 1 + 1, 1, none⟩ = some (.slice A' k c') := O2.cell 1 _ rfl; have fo := O2.free))
      go_roundw
      case rel =>
        refine ⟨k + 1, A2, c2, by omega, by go_num, ?_, O2.set 1 (.slice A2 (k + 1) c2), ?_⟩
        · rw [HS.out]
          exact ownsRow_setCell_below hown' (by show w.heap.size + 1 + 1 < _; omega) _
        · exact (hbA.trans (hb'.mono (by omega))).setCell (by show w.heap.size + 1 + 1 ≤ w.heap.size + 1 + 1; omega) _
      case measure => simp [intOf]; omega
    · have hkn : k = n := by omega
      subst hkn
      rw [List.take_of_length_le (by rw [HL.out]; omega)] at hown
      have R1 := R0.belowB hb (by omega)
      have r0 : wr.cell? ⟨w.heap.size + 1, 0, none⟩ = some (.int .i64 0) := R1.cell 0 _ rfl
      have r1 : wr.cell? ⟨w.heap.size + 1, 1, none⟩ = some (.slice none 0 0) := R1.cell 1 _ rfl
      have fr := R1.free
      have hBr := hB0.trans (hb.mono (show w.heap.size ≤ w.heap.size + 1 + 1 by omega))
      have hown2 := ownsRow_setCell_below (ownsRow_setCell_below hown (a := ⟨w.heap.size + 1, 0, none⟩) (by show w.heap.size + 1 < _; omega) (.int .i64 g)) (a := ⟨w.heap.size + 1, 1, none⟩) (by show w.heap.size + 1 < _; omega) (.slice A' k c')
      obtain ⟨A3, c3, e3, hr3⟩ := Reads.own hown2
      injection e3 with x1 x2 x3
      subst x1 x3
      have HR := Lib.hid hr3
      clear hown hown2 hr3
      go_wp2_with fail
      refine bodyPost_ret (v := codeV g A' k c') (by simp [results, Try.results20, go_sem, r0, r1]) rfl ?_
      exact ⟨A', c', by rw [HL.out], by rw [HL.out]; exact HR.out, (hBr.setCell (by simp) _).setCell (by simp) _⟩

end Go.Proofs.Ytpmdgmgcbminaaa

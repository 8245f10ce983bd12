/- The contracts of Refs: the program's and the reference's. -/
import Derived.Test.YtmcdhpbkhchpeaaScope9
namespace Go.Proofs.Ytmcdhpbkhchpeaa
open Go.ChangeShapes Go.WideShapes Go.RowKit Words

def liveRefs (l : List Sl) : List (BitVec 64) := (l.filter (·.live)).map (·.ref)
def refsL (x : Lc) : List (BitVec 64) := if x.valid = true then liveRefs x.s else []
theorem liveRefs_true {l : List Sl} {k : Nat} {st : Int} {rf : BitVec 64} (h : l[k]? = some ⟨st, rf, true⟩) : liveRefs (l.drop k) = rf :: liveRefs (l.drop (k + 1)) := by
  rw [drop_at h]; unfold liveRefs; simp
theorem liveRefs_false {l : List Sl} {k : Nat} {st : Int} {rf : BitVec 64} (h : l[k]? = some ⟨st, rf, false⟩) : liveRefs (l.drop k) = liveRefs (l.drop (k + 1)) := by
  rw [drop_at h]; unfold liveRefs; simp
theorem liveRefs_le (l : List Sl) : (liveRefs l).length ≤ l.length := by unfold liveRefs; rw [List.length_map]; exact List.length_filter_le _ _
def restRefs (vb : Bool) (l : List Sl) : List (BitVec 64) := if vb = true then liveRefs l else []
/-- words of the call's own come back -/
def RetWl (w : World) (l : List (BitVec 64)) (e : Ending) (w' : World) : Prop :=
  ∃ A c, e = .returned (.slice A l.length c) ∧ Reads w' w'.heap.size 1 A l.length c (l.flatMap wordCells) ∧ Below w.heap.size w w'

set_option linter.unusedSimpArgs false in
set_option maxHeartbeats 4000000 in
theorem refs_any (As : Option Addr) (ns cs : Nat) (Ap : Option Addr) (np cp : Nat) (Ai : Option Addr) (ni ci : Nat) (S : List Sl) (P : List Sc) (I : List Int) (w : World) (h : LRd w As ns cs Ap np cp Ai ni ci S P I) (hs : ns ≤ 1000000) :
    Calls Try.prog 17 #[locV As ns cs Ap np cp Ai ni ci] w (RetWl w (refsL ⟨S, P, I⟩)) := by
  obtain ⟨hS, hP, hI⟩ := h.lens
  have hB := loc_alloc w 26 (.slice As ns cs) (.slice Ap np cp) (.slice Ai ni ci)
  have B0 := Blk.new w #[.slice As ns cs, .slice Ap np cp, .slice Ai ni ci] 26
  have hh := h.belowU hB
  have HS := Lib.hid hS
  obtain ⟨vb, hvb⟩ : ∃ vb, validL S P I = vb := ⟨_, rfl⟩
  have HVB := Lib.hid hvb
  have hr : refsL ⟨S, P, I⟩ = restRefs vb S := by unfold refsL Lc.valid restRefs; rw [hvb]
  rw [hr]
  clear hS hP hI h hvb hr
  go_enter Try.func17, Try.ntmps17
  go_wp2_with fail
  refine (valid_any As ns cs Ap np cp Ai ni ci S P I _ hh).mono ?_
  rw [HVB.out]
  rintro e w1 ⟨rfl, hb1⟩
  cases vb with
  | false =>
    go_wp2_with fail
    go_ret
    exact ⟨none, 0, rfl, Reads.nil, keep_below hb1 hB⟩
  | true =>
    have hB1 := keep_below hb1 hB
    have B1 := B0.below hb1
    have hh1 := hh.belowU hb1
    have b0 := B1.cell 0 _ rfl
    clear B0 hh hb1 hB B1
    go_wp2_with fail
    clear b0
    go_loopw [3, 12] (fun v x wq => ∃ (k : Nat) (acc : List (BitVec 64)) (A : Option Addr) (c : Nat), k ≤ ns ∧ x = .int .i64 k ∧ v = .slice A acc.length c ∧ acc.length ≤ k ∧ acc ++ liveRefs (S.drop k) = liveRefs S ∧ wq.ownsRow w1.heap.size 32 1 (.slice A acc.length c) acc.length (acc.flatMap wordCells) ∧ Below w1.heap.size w1 wq) (fun _ x _ => ns - (intOf x).toNat)
    case atStart => exact ⟨0, [], none, 0, Nat.zero_le _, rfl, rfl, Nat.le_refl _, rfl, World.ownsRow_nil _ _ _ _, Below.refl _ _⟩
    case round =>
      obtain ⟨k, acc, A, c, hk, rfl, rfl, hak, hacc, hown, hb⟩ := hrel
      by_cases hlt : k < ns
      · obtain ⟨b, off, x, rfl, hbb, hx, hc⟩ := (hh1.belowU hb).s.elem slCells_len (by omega) hlt
        have d0 := hc 0 _ rfl
        have d1 := hc 1 _ rfl
        have d2 := hc 2 _ rfl
        rw [Nat.add_zero] at d0
        have hk0 : (0 : Int) ≤ (k : Int) := by omega
        have hk1 : (k : Int) < (ns : Int) := by omega
        obtain ⟨st, rf, lv⟩ := x
        dsimp only at d0 d1 d2
        cases lv with
        | false =>
          rw [liveRefs_false hx] at hacc
          have HA := Lib.hid hacc
          clear hacc hx hc
          go_wp2_with fail
          go_roundw
          case rel => exact ⟨k + 1, acc, A, c, by omega, by go_num, rfl, by omega, HA.out, hown.alloc _, keep_alloc hb _⟩
          case measure => simp [intOf]; omega
        | true =>
          rw [liveRefs_true hx] at hacc
          have HA := Lib.hid hacc
          have own1 := (hown.alloc (.cells #[.int .i64 st, .int .u64 (U rf), .bool true] 62)).alloc (.cells #[.int .u64 (U rf)] 32)
          have hfr := Reads.freshAt (wr.alloc (.cells #[.int .i64 st, .int .u64 (U rf), .bool true] 62)) #[.int .u64 (U rf)] 32 1 1 [.int .u64 (U rf)] (wr.heap.size + 1) (by simp) rfl rfl (by decide)
          have q1 : acc.length + 1 ≤ maxLen := by unfold maxLen; omega
          have q2 : (acc.length + 1) * 8 ≤ 140737488355328 := by omega
          have hsz := hb.size
          clear hacc hx hc
          go_wp2_with (at_builtin; go_loud (refine wpList_app rfl _ _ _ rfl tyWo rfl own1 rfl hfr (by simp [Value.oneCell']) q1 q2 (by simp; omega) ?_; intro v' w6 hown' hb'; obtain ⟨A2, c2, rfl, -⟩ := Reads.own hown'))
          go_roundw
          case rel =>
            refine ⟨k + 1, acc ++ [rf], A2, c2, by omega, by go_num, by simp, by simp; omega, by rw [List.append_assoc]; exact HA.out, ?_, (keep_alloc (keep_alloc hb _) _).trans hb'⟩
            simpa [wordCells] using hown'
          case measure => simp [intOf]; omega
      · rw [List.drop_eq_nil_of_le (by have := HS.out; omega)] at hacc
        have hac : acc = liveRefs S := by simpa [liveRefs] using hacc
        subst hac
        have hr := reads_own hown
        have HR := Lib.hid hr
        clear hacc hr hown
        go_wp2_with fail
        go_ret
        exact ⟨A, c, rfl, HR.out, keep_below hb hB1⟩

set_option linter.unusedSimpArgs false in
set_option maxHeartbeats 4000000 in
theorem rrefs_any (As : Option Addr) (ns cs : Nat) (Ap : Option Addr) (np cp : Nat) (Ai : Option Addr) (ni ci : Nat) (S : List Sl) (P : List Sc) (I : List Int) (w : World) (h : LRd w As ns cs Ap np cp Ai ni ci S P I) (hs : ns ≤ 1000000) :
    Calls Try.prog 18 #[locV As ns cs Ap np cp Ai ni ci] w (RetWl w (refsL ⟨S, P, I⟩)) := by
  obtain ⟨hS, hP, hI⟩ := h.lens
  have hB := loc_alloc w 26 (.slice As ns cs) (.slice Ap np cp) (.slice Ai ni ci)
  have B0 := Blk.new w #[.slice As ns cs, .slice Ap np cp, .slice Ai ni ci] 26
  have hh := h.belowU hB
  have HS := Lib.hid hS
  obtain ⟨vb, hvb⟩ : ∃ vb, validL S P I = vb := ⟨_, rfl⟩
  have HVB := Lib.hid hvb
  have hr : refsL ⟨S, P, I⟩ = restRefs vb S := by unfold refsL Lc.valid restRefs; rw [hvb]
  rw [hr]
  clear hS hP hI h hvb hr
  go_enter Try.func18, Try.ntmps18
  go_wp2_with fail
  obtain ⟨w1, hw1⟩ : ∃ w1, w.alloc (.cells #[.slice As ns cs, .slice Ap np cp, .slice Ai ni ci] 26) = w1 := ⟨_, rfl⟩
  rw [hw1] at hB hh B0 ⊢
  clear hw1
  go_loopw [3, 4] (fun v x wq => ∃ (k : Nat) (acc : List (BitVec 64)) (A : Option Addr) (c : Nat), k ≤ ns ∧ x = .int .i64 k ∧ v = .slice A acc.length c ∧ acc.length ≤ k ∧ acc ++ restRefs vb (S.drop k) = restRefs vb S ∧ wq.ownsRow w1.heap.size 32 1 (.slice A acc.length c) acc.length (acc.flatMap wordCells) ∧ Below w1.heap.size w1 wq) (fun _ x _ => ns - (intOf x).toNat)
  case atStart => exact ⟨0, [], none, 0, Nat.zero_le _, rfl, rfl, Nat.le_refl _, rfl, World.ownsRow_nil _ _ _ _, Below.refl _ _⟩
  case round =>
    obtain ⟨k, acc, A, c, hk, rfl, rfl, hak, hacc, hown, hb⟩ := hrel
    have Br := B0.below hb
    have hhr := hh.belowU hb
    have b0 := Br.cell 0 _ rfl
    have b1 := Br.cell 1 _ rfl
    have b2 := Br.cell 2 _ rfl
    have hBr := keep_below hb hB
    by_cases hlt : k < ns
    · have hd : decide ((k : Int) < (ns : Int)) = true := by simp; omega
      have HAC := Lib.hid hacc
      clear hacc
      go_wp2_with fail
      refine (rvalid_any As ns cs Ap np cp Ai ni ci S P I _ hhr).mono ?_
      rw [HVB.out]
      rintro e w2 ⟨rfl, hb2⟩
      have B2 := Br.below hb2
      have c0 := B2.cell 0 _ rfl
      have hh2 := hhr.belowU hb2
      have hown2 := own_keep hown hb2
      clear b0 b1 b2 Br hhr hown
      cases vb with
      | false =>
        have hac : acc = [] := by simpa [restRefs] using HAC.out
        subst hac
        go_wp2_with fail
        go_ret
        exact ⟨A, c, rfl, reads_own hown2, keep_below hb2 hBr⟩
      | true =>
        have hacc : acc ++ liveRefs (S.drop k) = liveRefs S := HAC.out
        obtain ⟨b, off, x, rfl, hbb, hx, hc⟩ := hh2.s.elem slCells_len (by omega) hlt
        have d1 := hc 1 _ rfl
        have d2 := hc 2 _ rfl
        have hk0 : (0 : Int) ≤ (k : Int) := by omega
        have hk1 : (k : Int) < (ns : Int) := by omega
        obtain ⟨st, rf, lv⟩ := x
        dsimp only at d1 d2
        cases lv with
        | false =>
          rw [liveRefs_false hx] at hacc
          have HA := Lib.hid hacc
          clear hacc hx hc
          go_wp2_with fail
          go_roundw
          case rel => exact ⟨k + 1, acc, A, c, by omega, by go_num, rfl, by omega, HA.out, hown2, keep_below hb2 hb⟩
          case measure => simp [intOf]; omega
        | true =>
          rw [liveRefs_true hx] at hacc
          have HA := Lib.hid hacc
          have own1 := hown2.alloc (.cells #[.int .u64 (U rf)] 32)
          have hfr := Reads.freshAs w2 #[.int .u64 (U rf)] 32 1 1 [.int .u64 (U rf)] rfl rfl (by decide)
          have q1 : acc.length + 1 ≤ maxLen := by unfold maxLen; omega
          have q2 : (acc.length + 1) * 8 ≤ 140737488355328 := by omega
          have hsz := (keep_below hb2 hb).size
          clear hacc hx hc
          go_wp2_with (at_builtin; go_loud (refine wpList_app rfl _ _ _ rfl tyWo rfl own1 rfl hfr (by simp [Value.oneCell']) q1 q2 (by simp; omega) ?_; intro v' w6 hown' hb'; obtain ⟨A2, c2, rfl, -⟩ := Reads.own hown'))
          go_roundw
          case rel =>
            refine ⟨k + 1, acc ++ [rf], A2, c2, by omega, by go_num, by simp, by simp; omega, by rw [List.append_assoc]; exact HA.out, ?_, (keep_alloc (keep_below hb2 hb) _).trans hb'⟩
            simpa [wordCells] using hown'
          case measure => simp [intOf]; omega
    · have hd : decide ((k : Int) < (ns : Int)) = false := by simp; omega
      rw [List.drop_eq_nil_of_le (by have := HS.out; omega)] at hacc
      have hac : acc = restRefs vb S := by
        rw [← hacc]; unfold restRefs; cases vb <;> simp [liveRefs]
      have HAC := Lib.hid hac
      have hr := reads_own hown
      have HR := Lib.hid hr
      clear hacc hr hown hac
      go_wp2_with fail
      go_ret
      rw [← HAC.out]
      exact ⟨A, c, rfl, HR.out, hBr⟩
end Go.Proofs.Ytmcdhpbkhchpeaa

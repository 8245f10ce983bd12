/- The walk of McodeRefs. -/
import Derived.Test.YtnnchinpmnpfiaaDoorM9
import Derived.Deep.RegionHeld3
namespace Go.Proofs.YtnnchinpmnpfiaaDoor
open Go.ChangeShapes Go.WideShapes Go.RowKit Words

theorem rankL_one (a : Int) (l : List Int) : rankL (a :: l) = (if a = 2 then 1 else 0) + rankL l := by
  unfold rankL
  by_cases e : a = 2
  · simp [e]; omega
  · simp [e]
/-- the k-th reference has rank k -/
theorem ref_rank : ∀ (l : List Int) (i k : Nat) (x : Int), (refsFrom i l)[k]? = some x → ∃ j : Nat, x = ((i + j : Nat) : Int) ∧ j < l.length ∧ rankL (l.take j) = k
  | [], i, k, x, h => by simp [refsFrom] at h
  | a :: l, i, k, x, h => by
    unfold refsFrom at h
    by_cases e : a = 2
    · rw [if_pos e] at h
      cases k with
      | zero =>
        simp only [List.getElem?_cons_zero, Option.some.injEq] at h
        exact ⟨0, by rw [← h]; rfl, by simp, rfl⟩
      | succ k =>
        rw [List.getElem?_cons_succ] at h
        obtain ⟨j, hx, hj, hr⟩ := ref_rank l (i + 1) k x h
        exact ⟨j + 1, by rw [hx]; congr 1; omega, by simp; exact hj, by rw [List.take_succ_cons, rankL_one, if_pos e, hr]; omega⟩
    · rw [if_neg e] at h
      obtain ⟨j, hx, hj, hr⟩ := ref_rank l (i + 1) k x h
      exact ⟨j + 1, by rw [hx]; congr 1; omega, by simp; exact hj, by rw [List.take_succ_cons, rankL_one, if_neg e, hr]; omega⟩
theorem same_self (A : Option Addr) (n c : Nat) (l : List Int) (B : Option Addr) (m d : Nat) (w : World) (h : Reads w w.heap.size 1 A n c (l.flatMap intCells)) (h' : Reads w w.heap.size 1 B m d (l.flatMap intCells)) (hn : n ≤ 1000000) :
    Calls Tryd.prog 16 #[.slice A n c, .slice B m d] w fun e w' => e = .returned (.bool true) ∧ Below w.heap.size w w' := by
  have := same_any A n c l B m d l w h h' hn
  rw [decide_eq_true (rfl : l = l)] at this
  exact this

set_option linter.unusedSimpArgs false in
set_option maxRecDepth 100000 in
set_option maxHeartbeats 4000000 in
theorem walkMcodeRefs {H : Type} {enc : TypeId × Value → H} (W : World) (base : Nat) {v0 v1 : Value} {d0 d1 : DataW H} {p0 p1 : List MemPlace}
    (o0 : Value.okWide Tryd.prog W .any base 44 v0) (h0 : DataW.Trod enc Tryd.prog W 0 (fun _ => true) true 44 v0 d0 p0)
    (o1 : Value.okWide Tryd.prog W .any base 3 v1) (h1 : DataW.Trod enc Tryd.prog W 0 (fun _ => true) true 3 v1 d1 p1) :
    Calls Tryd.prog 5 #[v0, v1] W fun e w' => e = .returned (.bool true) ∧ Below W.heap.size W w' := by
  obtain ⟨p, A, n, c, r, B, m, d, l, ins, rfl, -, -, hA, hI, -, -⟩ := open_fn o0 h0
  obtain ⟨i, rfl, -⟩ := open_i64 Tryd.underlying3 o1 h1
  clear h0 o0 h1 o1
  have hB0 : Below W.heap.size W (W.alloc (.cells #[.int .i64 p, .slice A n c, .int .i64 r, .slice B m d] 44)) := keep_alloc (Below.refl _ _) _
  have X0 := Blk.new W #[.int .i64 p, .slice A n c, .int .i64 r, .slice B m d] 44
  have q0 := X0.cell 0 _ rfl
  have q1 := X0.cell 1 _ rfl
  have q2 := X0.cell 2 _ rfl
  have q3 := X0.cell 3 _ rfl
  by_cases hn : 50 < n
  · have hd : decide ((50 : Int) < (n : Int)) = true := by simp; omega
    go_enter Tryd.func5, Tryd.ntmps5
    go_wp2_with fail
    go_ret
    exact ⟨rfl, hB0⟩
  by_cases hm : 10 < m
  · have hd : decide ((50 : Int) < (n : Int)) = false := by simp; omega
    have hd2 : decide ((10 : Int) < (m : Int)) = true := by simp; omega
    go_enter Tryd.func5, Tryd.ntmps5
    go_wp2_with fail
    go_ret
    exact ⟨rfl, hB0⟩
  have hd : decide ((50 : Int) < (n : Int)) = false := by simp; omega
  have hd2 : decide ((10 : Int) < (m : Int)) = false := by simp; omega
  have hlen := hA.length (f := intCells) (fun _ => rfl) (by omega)
  have hn1 : n ≤ 1000000 := by omega
  have hm1 : m ≤ 1000000 := by omega
  have hrl : (refsFrom 0 l).length ≤ 1000000 := by have := refsFrom_len l 0; omega
  have HN := Lib.hid hn1
  have HM := Lib.hid hm1
  have HRL := Lib.hid hrl
  have HLEN := Lib.hid hlen
  clear hn hm hn1 hm1 hlen hrl
  have HA := Lib.hid (hA.belowU hB0)
  have HI := Lib.hid (hI.belowU hB0)
  clear hA hI
  go_enter Tryd.func5, Tryd.ntmps5
  go_wp2_with fail
  refine (function_any p A n c r B m d ins _ HI.out HM.out).mono ?_
  rintro e w2 ⟨B2, d2, rfl, -, hb2⟩
  have hB2 := keep_below hb2 hB0
  have X2 := X0.below hb2
  have HA2 := HA.out.belowU hb2
  have HI2 := HI.out.belowU hb2
  clear q0 q1 q2 q3 X0 hb2
  go_wp2_with fail
  refine (refs_any p A n c r B2 _ d2 l _ HA2 HN.out).mono ?_
  rintro e w3 ⟨A5, c5, rfl, R5, hb3⟩
  have hB3 := keep_below hb3 hB2
  have X3 := X2.below hb3
  have HA3 := Lib.hid (fun u (hu : Below w3.heap.size w3 u) => (HA2.belowU hb3).belowU hu)
  have HI3 := Lib.hid (fun u (hu : Below w3.heap.size w3 u) => (HI2.belowU hb3).belowU hu)
  have HR3 := Lib.hid (fun u (hu : Below w3.heap.size w3 u) => R5.belowU hu)
  have HX3 := Lib.hid (fun u (hu : Below w3.heap.size w3 u) => X3.below hu)
  have c0 : w3.cell? ⟨W.heap.size, 0, none⟩ = some (.int .i64 p) := X3.cell 0 _ rfl
  have c1 : w3.cell? ⟨W.heap.size, 1, none⟩ = some (.slice A n c) := X3.cell 1 _ rfl
  have c2 : w3.cell? ⟨W.heap.size, 2, none⟩ = some (.int .i64 r) := X3.cell 2 _ rfl
  have c3 : w3.cell? ⟨W.heap.size, 3, none⟩ = some (.slice B m d) := X3.cell 3 _ rfl
  have hZ : Below w3.heap.size w3 w3 := Below.refl _ _
  clear HA HI HA2 HI2 X2 X3 hb3 hB2 R5
  go_wp2_with fail
  go_region_held3 (fun w' => w'.cell? ⟨W.heap.size, 0, none⟩ = some (.int .i64 p) ∧ w'.cell? ⟨W.heap.size, 1, none⟩ = some (.slice A n c) ∧ w'.cell? ⟨W.heap.size, 2, none⟩ = some (.int .i64 r) ∧ w'.cell? ⟨W.heap.size, 3, none⟩ = some (.slice B m d) ∧ Below w3.heap.size w3 w')
    (first | (go_split_ands; refine ⟨?_, ?_, ?_, ?_, ?_⟩ <;> first | assumption | (refine keep_cell hb ?_; assumption) | (refine keep_below hb ?_; assumption) | (refine Below.drew ?_; assumption)) | go_keep)
    (first
      | (go_at_call 17; refine (rrefs_any p A n c r B m d l _ (HA3.out _ (by go_split_ands; assumption)) HN.out).mono ?_; rintro e w' ⟨A6, c6, rfl, R6, hb⟩)
      | (go_at_call 16; refine (same_self A5 _ c5 _ A6 _ c6 _ (HR3.out _ (by go_split_ands; assumption)) (by first | exact R6 | exact R6.drew) HRL.out).mono ?_; rintro e w' ⟨rfl, hb⟩)
      | (go_at_call 13; refine (function_any p A n c r B m d ins _ (HI3.out _ (by go_split_ands; assumption)) HM.out).mono ?_; rintro e w' ⟨B7, d7, rfl, R7, hb⟩)
      | (go_at_call 18; refine (rank_any p A n c r _ _ _ l i _ (HA3.out _ (by go_split_ands; assumption)) HN.out).mono ?_; rintro e w' ⟨rfl, hb⟩)
      | (go_at_call 19; refine (rrank_any p A n c r _ _ _ l i _ (HA3.out _ (by go_split_ands; assumption)) HN.out).mono ?_; rintro e w' ⟨rfl, hb⟩))
  rename_i hHeld
  obtain ⟨-, -, -, -, hV⟩ := hHeld
  clear hb c0 c1 c2 c3 hZ R6 R7
  go_wp2_with fail
  go_loopw [6] (fun x wq => ∃ k : Nat, k ≤ (refsFrom 0 l).length ∧ x = .int .i64 k ∧ Below w3.heap.size w3 wq) (fun x _ => (refsFrom 0 l).length - (intOf x).toNat)
  case atStart => exact ⟨0, Nat.zero_le _, rfl, hV⟩
  case round =>
    obtain ⟨k, hk, rfl, hbr⟩ := hrel
    have HX := HX3.out _ hbr
    have e0 := HX.cell 0 _ rfl
    have e1 := HX.cell 1 _ rfl
    have e2 := HX.cell 2 _ rfl
    have e3 := HX.cell 3 _ rfl
    by_cases hlt : k < (refsFrom 0 l).length
    · obtain ⟨b0, off, x, rfl, hbb, hx, hc⟩ := (HR3.out _ hbr).elem (f := intCells) (fun _ => rfl) (by omega) hlt
      have e4 := hc 0 _ rfl
      rw [Nat.mul_one, Nat.add_zero] at e4
      obtain ⟨j, hj, hjl, hr⟩ := ref_rank l 0 k x hx
      have hRK : rankL (l.take x.toNat) = k := by rw [hj, Int.toNat_natCast, Nat.zero_add]; exact hr
      have HRK := Lib.hid hRK
      have hk0 : (0 : Int) ≤ (k : Int) := by omega
      have hk1 : (k : Int) < ((refsFrom 0 l).length : Int) := by omega
      have hd : decide ((k : Int) < ((refsFrom 0 l).length : Int)) = true := decide_eq_true hk1
      have hdd : decide (k < (refsFrom 0 l).length) = true := decide_eq_true hlt
      have hw : IntKind.i64.wrap ((k : Int) + 1) = (k : Int) + 1 := IntWalk.i64_in _ (by have := HRL.out; omega)
      have HLT := Lib.hid hlt
      clear hx hc hj hjl hr hRK hlt HX hbb
      go_wp2_with fail
      go_region_held3 (fun w' => w'.cell? ⟨W.heap.size, 0, none⟩ = some (.int .i64 p) ∧ w'.cell? ⟨W.heap.size, 1, none⟩ = some (.slice A n c) ∧ w'.cell? ⟨W.heap.size, 2, none⟩ = some (.int .i64 r) ∧ w'.cell? ⟨W.heap.size, 3, none⟩ = some (.slice B m d) ∧ w'.cell? ⟨b0, off + k, none⟩ = some (.int .i64 x) ∧ Below w3.heap.size w3 w')
        (first | (go_split_ands; refine ⟨?_, ?_, ?_, ?_, ?_, ?_⟩ <;> first | assumption | (refine keep_cell hb ?_; assumption) | (refine keep_below hb ?_; assumption) | (refine Below.drew ?_; assumption)) | go_keep)
        (first
          | (go_at_call 13; refine (function_any p A n c r B m d ins _ (HI3.out _ (by go_split_ands; assumption)) HM.out).mono ?_; rintro e w' ⟨B7, d7, rfl, R7, hb⟩)
          | (go_at_call 18; refine (rank_any p A n c r _ _ _ l x _ (HA3.out _ (by go_split_ands; assumption)) HN.out).mono ?_; rw [HRK.out]; rintro e w' ⟨rfl, hb⟩))
      all_goals
        rename_i hHeld
        obtain ⟨-, -, -, -, -, hV2⟩ := hHeld
        go_wp2_with fail
        go_round
        · exact ⟨k + 1, HLT.out, by push_cast; rfl, hV2⟩
        · have := HLT.out
          simp only [intOf]
          omega
    · have hd : decide ((k : Int) < ((refsFrom 0 l).length : Int)) = false := decide_eq_false (by omega)
      go_wp2_with fail
      refine (awake_any _).mono ?_
      rintro e w5 ⟨rfl, hb5⟩
      go_wp2_with fail
      go_ret
      exact ⟨rfl, keep_below hb5 (keep_below hbr hB3)⟩
end Go.Proofs.YtnnchinpmnpfiaaDoor

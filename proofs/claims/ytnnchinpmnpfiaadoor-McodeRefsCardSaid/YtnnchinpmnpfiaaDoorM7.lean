/- Kinds at Return; counting over instructions by a closure. -/
import Derived.Test.YtnnchinpmnpfiaaDoorM6
namespace Go.Proofs.YtnnchinpmnpfiaaDoor
open Go.ChangeShapes Go.WideShapes Go.RowKit Words

set_option linter.unusedSimpArgs false in
set_option maxRecDepth 100000 in
set_option maxHeartbeats 4000000 in
theorem kinds_ret (S : Option Addr) (ns cs : Nat) (F : Option Addr) (nf cf : Nat) (N : Option Addr) (nn cn : Nat) (p : Int) (A : Option Addr) (n c : Nat) (r : Int) (B : Option Addr) (m d : Nat) (a b c' : Int) (k : BitVec 64) (w : World) :
    Calls Tryd.prog 12 #[prV S ns cs F nf cf N nn cn, fnV p A n c r B m d, insV ⟨25, a, b, c', k⟩] w (RetK w [a] [r] true) := by
  have hB0 : Below w.heap.size w (((w.alloc (.cells #[.slice S ns cs, .slice F nf cf, .slice N nn cn] 37)).alloc (.cells #[.int .i64 p, .slice A n c, .int .i64 r, .slice B m d] 49)).alloc (.cells #[.int .i64 25, .int .i64 a, .int .i64 b, .int .i64 c', .int .u64 (U k)] 53)) := keep_alloc (keep_alloc (keep_alloc (Below.refl _ _) _) _) _
  have X1 := (Blk.newAt (w.alloc (.cells #[.slice S ns cs, .slice F nf cf, .slice N nn cn] 37)) #[.int .i64 p, .slice A n c, .int .i64 r, .slice B m d] 49 (w.heap.size + 1) (by simp)).alloc (.cells #[.int .i64 25, .int .i64 a, .int .i64 b, .int .i64 c', .int .u64 (U k)] 53)
  have X2 := Blk.newAt ((w.alloc (.cells #[.slice S ns cs, .slice F nf cf, .slice N nn cn] 37)).alloc (.cells #[.int .i64 p, .slice A n c, .int .i64 r, .slice B m d] 49)) #[.int .i64 25, .int .i64 a, .int .i64 b, .int .i64 c', .int .u64 (U k)] 53 (w.heap.size + 1 + 1) (by simp)
  go_enter Tryd.func12, Tryd.ntmps12
  go_upto_region 6 with fail
  obtain ⟨w1, hw1⟩ : ∃ w1, (((w.alloc (.cells #[.slice S ns cs, .slice F nf cf, .slice N nn cn] 37)).alloc (.cells #[.int .i64 p, .slice A n c, .int .i64 r, .slice B m d] 49)).alloc (.cells #[.int .i64 25, .int .i64 a, .int .i64 b, .int .i64 c', .int .u64 (U k)] 53)) = w1 := ⟨_, rfl⟩
  rw [hw1] at hB0 X1 X2 ⊢
  have L1 : ∀ u, Below w1.heap.size w1 u → u.cell? ⟨w.heap.size + 1 + 1, 1, none⟩ = some (.int .i64 a) := fun u hu => (X2.below hu).cell 1 _ rfl
  have L2 : ∀ u, Below w1.heap.size w1 u → u.cell? ⟨w.heap.size + 1, 2, none⟩ = some (.int .i64 r) := fun u hu => (X1.below hu).cell 2 _ rfl
  clear hw1
  go_region_held3 (fun w' => Below w1.heap.size w1 w') (first | exact (Below.refl _ _).drew | exact keep_alloc (by assumption) _) (fail)
  · go_wp2_with fail
    refine bodyPost_ret (v := .tuple #[.slice (some ⟨w1.heap.size, 0, none⟩) 1 1, .slice (some ⟨w1.heap.size + 1, 0, none⟩) 1 1, .bool true]) (by simp [results, Tryd.results12]) rfl ?_
    have R1 := Reads.freshAt (World.drew w1) #[.int .i64 a] 3 1 1 (([a] : List Int).flatMap intCells) w1.heap.size rfl rfl rfl (by decide)
    have R2 := Reads.freshAt ((World.drew w1).alloc (.cells #[.int .i64 a] 3)) #[.int .i64 r] 3 1 1 (([r] : List Int).flatMap intCells) (w1.heap.size + 1) (by simp) rfl rfl (by decide)
    exact ⟨_, _, _, _, rfl, R1.belowU (keep_alloc (Below.refl _ _) _), R2, keep_alloc (keep_alloc hB0.drew _) _⟩
  · go_wp2_with fail
    refine bodyPost_ret (v := .tuple #[.slice (some ⟨w1.heap.size + 1, 0, none⟩) 1 1, .slice (some ⟨w1.heap.size, 0, none⟩) 1 1, .bool true]) (by simp [results, Tryd.results12]) rfl ?_
    have R1 := Reads.freshAt (World.drew w1) #[.int .i64 r] 3 1 1 (([r] : List Int).flatMap intCells) w1.heap.size rfl rfl rfl (by decide)
    have R2 := Reads.freshAt ((World.drew w1).alloc (.cells #[.int .i64 r] 3)) #[.int .i64 a] 3 1 1 (([a] : List Int).flatMap intCells) (w1.heap.size + 1) (by simp) rfl rfl (by decide)
    exact ⟨_, _, _, _, rfl, R2, R1.belowU (keep_alloc (Below.refl _ _) _), keep_alloc (keep_alloc hB0.drew _) _⟩
set_option maxHeartbeats 1000000 in
theorem cntI_any (gp gf : Nat) (A : Option Addr) (n c : Nat) (l : List NI) (sb : NI → Bool) (w : World) (h : Reads w w.heap.size 5 A n c (l.flatMap insCells))
    (hS : ∀ x ∈ l, ∀ wq, Below w.heap.size w wq → Calls Tryd.prog 49 #[insV x, .pointer (some ⟨gp, 0, none⟩), .pointer (some ⟨gf, 0, none⟩)] wq fun e w' => e = .returned (.bool (sb x)) ∧ Below wq.heap.size wq w') (hn : n ≤ 1000000) :
    Calls Tryd.prog 63 #[.slice A n c, .func (.func 49) #[] #[.pointer (some ⟨gp, 0, none⟩), .pointer (some ⟨gf, 0, none⟩)]] w fun e w' => e = .returned (.int .i64 ((l.filter sb).length : Nat)) ∧ Below w.heap.size w w' := by
  have hlen := h.length insCells_len (by omega)
  have HL := Lib.hid hlen
  clear hlen
  go_enter Tryd.func63, Tryd.ntmps63
  go_wp2_with fail
  go_loopw [5, 10] (fun s x wq => ∃ k q : Nat, k ≤ n ∧ q ≤ k ∧ x = .int .i64 k ∧ s = .int .i64 q ∧ q = ((l.take k).filter sb).length ∧ Below w.heap.size w wq) (fun _ x _ => n - (intOf x).toNat)
  case atStart => exact ⟨0, 0, Nat.zero_le _, Nat.le_refl _, rfl, rfl, rfl, Below.refl _ _⟩
  case round =>
    obtain ⟨k, q, hk, hqk, rfl, rfl, hq, hb⟩ := hrel
    have HQ := Lib.hid hq
    clear hq
    by_cases hlt : k < n
    · obtain ⟨b0, off, x, rfl, hbb, hx, hc⟩ := (h.belowU hb).elem insCells_len (by omega) hlt
      have HX := Lib.hid hx
      have HC := Lib.hid (hS x (List.mem_of_getElem? hx))
      obtain ⟨op, a, b, c', kk⟩ := x
      have d0 := hc 0 _ rfl
      have d1 := hc 1 _ rfl
      have d2 := hc 2 _ rfl
      have d3 := hc 3 _ rfl
      have d4 := hc 4 _ rfl
      rw [Nat.add_zero] at d0
      dsimp only at d0 d1 d2 d3 d4
      have hk0 : (0 : Int) ≤ (k : Int) := by omega
      have hk1 : (k : Int) < (n : Int) := by omega
      have hd : decide ((k : Int) < (n : Int)) = true := decide_eq_true hk1
      have hd2 : decide (k < n) = true := decide_eq_true hlt
      have hw : IntKind.i64.wrap ((k : Int) + 1) = (k : Int) + 1 := IntWalk.i64_in _ (by omega)
      have hw2 : IntKind.i64.wrap ((q : Int) + 1) = (q : Int) + 1 := IntWalk.i64_in _ (by omega)
      have HB := Lib.hid (keep_alloc hb (.cells #[.int .i64 op, .int .i64 a, .int .i64 b, .int .i64 c', .int .u64 (U kk)] 53))
      clear hc hx
      go_wp2_with fail
      refine (HC.out _ HB.out).mono ?_
      cases hp : sb ⟨op, a, b, c', kk⟩ with
      | true =>
        have HP := Lib.hid hp
        clear hp d0
        rintro e w2 ⟨rfl, hb2⟩
        have HB2 := Lib.hid (keep_below hb2 HB.out)
        clear hb2
        go_wp2_with fail
        go_roundw
        case rel => exact ⟨k + 1, q + 1, by omega, by omega, by go_num, by go_num, by rw [take_nx' HX.out, List.filter_append, List.length_append, ← HQ.out, List.filter_cons_of_pos HP.out]; rfl, HB2.out⟩
        case measure => simp [intOf]; omega
      | false =>
        have HP := Lib.hid hp
        clear hp d0
        rintro e w2 ⟨rfl, hb2⟩
        have HB2 := Lib.hid (keep_below hb2 HB.out)
        clear hb2
        go_wp2_with fail
        go_roundw
        case rel => exact ⟨k + 1, q, by omega, by omega, by go_num, rfl, by rw [take_nx' HX.out, List.filter_append, List.length_append, ← HQ.out, List.filter_cons_of_neg (by rw [HP.out]; decide)]; rfl, HB2.out⟩
        case measure => simp [intOf]; omega
    · have hkn : k = n := by omega
      subst hkn
      have hd : decide ((k : Int) < (k : Int)) = false := by simp
      have hd2 : decide (k < k) = false := by simp
      have HV := Lib.hid (show q = (l.filter sb).length from by rw [HQ.out, List.take_of_length_le (by rw [HL.out]; omega)])
      go_wp2_with fail
      go_ret
      exact ⟨by rw [← HV.out]; rfl, hb⟩
theorem allI_any (gp gf : Nat) (A : Option Addr) (n c : Nat) (l : List NI) (sb : NI → Bool) (w : World) (h : Reads w w.heap.size 5 A n c (l.flatMap insCells))
    (hS : ∀ x ∈ l, ∀ wq, Below w.heap.size w wq → Calls Tryd.prog 49 #[insV x, .pointer (some ⟨gp, 0, none⟩), .pointer (some ⟨gf, 0, none⟩)] wq fun e w' => e = .returned (.bool (sb x)) ∧ Below wq.heap.size wq w') (hn : n ≤ 1000000) :
    Calls Tryd.prog 48 #[.slice A n c, .func (.func 49) #[] #[.pointer (some ⟨gp, 0, none⟩), .pointer (some ⟨gf, 0, none⟩)]] w fun e w' => e = .returned (.bool (l.all sb)) ∧ Below w.heap.size w w' := by
  have hlen := h.length insCells_len (by omega)
  have HV := Lib.hid (show l.all sb = (((l.filter sb).length : Int) == (n : Int)) from by rw [← hlen]; exact all_count sb l)
  clear hlen
  go_enter Tryd.func48, Tryd.ntmps48
  go_wp2_with fail
  refine (cntI_any gp gf A n c l sb _ h hS hn).mono ?_
  rintro e w2 ⟨rfl, hb2⟩
  go_wp2_with fail
  go_ret
  exact ⟨by rw [HV.out]; rfl, hb2⟩
/-- a function's four cells -/
structure FC where
  p : Int
  A : Option Addr
  n : Nat
  c : Nat
  r : Int
  B : Option Addr
  m : Nat
  e : Nat
def fcCells (x : FC) : List Value := [.int .i64 x.p, .slice x.A x.n x.c, .int .i64 x.r, .slice x.B x.m x.e]
theorem fcCells_len (x : FC) : (fcCells x).length = 4 := rfl
abbrev fcV (x : FC) : Value := fnV x.p x.A x.n x.c x.r x.B x.m x.e
set_option maxHeartbeats 1000000 in
theorem cntG_any (gp : Nat) (A : Option Addr) (n c : Nat) (l : List FC) (sb : FC → Bool) (w : World) (h : Reads w w.heap.size 4 A n c (l.flatMap fcCells))
    (hS : ∀ x ∈ l, ∀ wq, Below w.heap.size w wq → Calls Tryd.prog 29 #[fcV x, .pointer (some ⟨gp, 0, none⟩)] wq fun e w' => e = .returned (.bool (sb x)) ∧ Below wq.heap.size wq w') (hn : n ≤ 1000000) :
    Calls Tryd.prog 46 #[.slice A n c, .func (.func 29) #[] #[.pointer (some ⟨gp, 0, none⟩)]] w fun e w' => e = .returned (.int .i64 ((l.filter sb).length : Nat)) ∧ Below w.heap.size w w' := by
  have hlen := h.length fcCells_len (by omega)
  have HL := Lib.hid hlen
  clear hlen
  go_enter Tryd.func46, Tryd.ntmps46
  go_wp2_with fail
  go_loopw [5, 10] (fun s x wq => ∃ k q : Nat, k ≤ n ∧ q ≤ k ∧ x = .int .i64 k ∧ s = .int .i64 q ∧ q = ((l.take k).filter sb).length ∧ Below w.heap.size w wq) (fun _ x _ => n - (intOf x).toNat)
  case atStart => exact ⟨0, 0, Nat.zero_le _, Nat.le_refl _, rfl, rfl, rfl, Below.refl _ _⟩
  case round =>
    obtain ⟨k, q, hk, hqk, rfl, rfl, hq, hb⟩ := hrel
    have HQ := Lib.hid hq
    clear hq
    by_cases hlt : k < n
    · obtain ⟨b0, off, x, rfl, hbb, hx, hc⟩ := (h.belowU hb).elem fcCells_len (by omega) hlt
      have HX := Lib.hid hx
      have HC := Lib.hid (hS x (List.mem_of_getElem? hx))
      obtain ⟨p, A1, n1, c1, r, B1, m1, e1⟩ := x
      have d0 := hc 0 _ rfl
      have d1 := hc 1 _ rfl
      have d2 := hc 2 _ rfl
      have d3 := hc 3 _ rfl
      rw [Nat.add_zero] at d0
      dsimp only at d0 d1 d2 d3
      have hk0 : (0 : Int) ≤ (k : Int) := by omega
      have hk1 : (k : Int) < (n : Int) := by omega
      have hd : decide ((k : Int) < (n : Int)) = true := decide_eq_true hk1
      have hd2 : decide (k < n) = true := decide_eq_true hlt
      have hw : IntKind.i64.wrap ((k : Int) + 1) = (k : Int) + 1 := IntWalk.i64_in _ (by omega)
      have hw2 : IntKind.i64.wrap ((q : Int) + 1) = (q : Int) + 1 := IntWalk.i64_in _ (by omega)
      have HB := Lib.hid (keep_alloc hb (.cells #[.int .i64 p, .slice A1 n1 c1, .int .i64 r, .slice B1 m1 e1] 49))
      clear hc hx
      go_wp2_with fail
      refine (HC.out _ HB.out).mono ?_
      cases hp : sb ⟨p, A1, n1, c1, r, B1, m1, e1⟩ with
      | true =>
        have HP := Lib.hid hp
        clear hp d0
        rintro e w2 ⟨rfl, hb2⟩
        have HB2 := Lib.hid (keep_below hb2 HB.out)
        clear hb2
        go_wp2_with fail
        go_roundw
        case rel => exact ⟨k + 1, q + 1, by omega, by omega, by go_num, by go_num, by rw [take_nx' HX.out, List.filter_append, List.length_append, ← HQ.out, List.filter_cons_of_pos HP.out]; rfl, HB2.out⟩
        case measure => simp [intOf]; omega
      | false =>
        have HP := Lib.hid hp
        clear hp d0
        rintro e w2 ⟨rfl, hb2⟩
        have HB2 := Lib.hid (keep_below hb2 HB.out)
        clear hb2
        go_wp2_with fail
        go_roundw
        case rel => exact ⟨k + 1, q, by omega, by omega, by go_num, rfl, by rw [take_nx' HX.out, List.filter_append, List.length_append, ← HQ.out, List.filter_cons_of_neg (by rw [HP.out]; decide)]; rfl, HB2.out⟩
        case measure => simp [intOf]; omega
    · have hkn : k = n := by omega
      subst hkn
      have hd : decide ((k : Int) < (k : Int)) = false := by simp
      have hd2 : decide (k < k) = false := by simp
      have HV := Lib.hid (show q = (l.filter sb).length from by rw [HQ.out, List.take_of_length_le (by rw [HL.out]; omega)])
      go_wp2_with fail
      go_ret
      exact ⟨by rw [← HV.out]; rfl, hb⟩
theorem allG_any (gp : Nat) (A : Option Addr) (n c : Nat) (l : List FC) (sb : FC → Bool) (w : World) (h : Reads w w.heap.size 4 A n c (l.flatMap fcCells))
    (hS : ∀ x ∈ l, ∀ wq, Below w.heap.size w wq → Calls Tryd.prog 29 #[fcV x, .pointer (some ⟨gp, 0, none⟩)] wq fun e w' => e = .returned (.bool (sb x)) ∧ Below wq.heap.size wq w') (hn : n ≤ 1000000) :
    Calls Tryd.prog 28 #[.slice A n c, .func (.func 29) #[] #[.pointer (some ⟨gp, 0, none⟩)]] w fun e w' => e = .returned (.bool (l.all sb)) ∧ Below w.heap.size w w' := by
  have hlen := h.length fcCells_len (by omega)
  have HV := Lib.hid (show l.all sb = (((l.filter sb).length : Int) == (n : Int)) from by rw [← hlen]; exact all_count sb l)
  clear hlen
  go_enter Tryd.func28, Tryd.ntmps28
  go_wp2_with fail
  refine (cntG_any gp A n c l sb _ h hS hn).mono ?_
  rintro e w2 ⟨rfl, hb2⟩
  go_wp2_with fail
  go_ret
  exact ⟨by rw [HV.out]; rfl, hb2⟩
end Go.Proofs.YtnnchinpmnpfiaaDoor

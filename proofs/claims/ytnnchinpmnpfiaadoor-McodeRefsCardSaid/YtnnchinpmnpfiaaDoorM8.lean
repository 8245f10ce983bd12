/- The program's valid: is a function right? -/
import Derived.Test.YtnnchinpmnpfiaaDoorM7
namespace Go.Proofs.YtnnchinpmnpfiaaDoor
open Go.ChangeShapes Go.WideShapes Go.RowKit Words

def lastB (ins : List NI) : Bool := match ins[ins.length - 1]? with | some x => decide (x.op = 11 ∨ x.op = 25) | none => false
def validF (locs : List Int) (p r : Int) (ins : List NI) (sb : NI → Bool) : Bool :=
  decide (locs.length ≤ 16) && (locs.all typedB && (typedB r && (decide (0 ≤ p) && (decide (p ≤ 3 ∧ p ≤ locs.length) && (decide (1 ≤ ins.length) && (decide (ins.length ≤ 256) && (lastB ins && ins.all sb)))))))
theorem valid1_any (S : Option Addr) (ns cs : Nat) (F : Option Addr) (nf cf : Nat) (N : Option Addr) (nn cn : Nat) (p : Int) (A : Option Addr) (n c : Nat) (r : Int) (B : Option Addr) (m d : Nat) (x : NI) (gp gf : Nat) (v : Bool) (w : World)
    (X0 : Blk w gp 37 #[.slice S ns cs, .slice F nf cf, .slice N nn cn]) (X1 : Blk w gf 49 #[.int .i64 p, .slice A n c, .int .i64 r, .slice B m d])
    (hS : ∀ wq, Below w.heap.size w wq → Calls Tryd.prog 50 #[prV S ns cs F nf cf N nn cn, fnV p A n c r B m d, insV x] wq fun e w' => e = .returned (.bool v) ∧ Below wq.heap.size wq w') :
    Calls Tryd.prog 49 #[insV x, .pointer (some ⟨gp, 0, none⟩), .pointer (some ⟨gf, 0, none⟩)] w fun e w' => e = .returned (.bool v) ∧ Below w.heap.size w w' := by
  obtain ⟨op, a, b, c', k⟩ := x
  have hB : Below w.heap.size w (w.alloc (.cells #[.int .i64 op, .int .i64 a, .int .i64 b, .int .i64 c', .int .u64 (U k)] 53)) := keep_alloc (Below.refl _ _) _
  have Y0 := X0.below hB
  have Y1 := X1.below hB
  have y0 := Y0.cell 0 _ rfl
  have y1 := Y0.cell 1 _ rfl
  have y2 := Y0.cell 2 _ rfl
  have u0 := Y1.cell 0 _ rfl
  have u1 := Y1.cell 1 _ rfl
  have u2 := Y1.cell 2 _ rfl
  have u3 := Y1.cell 3 _ rfl
  have HS := Lib.hid (hS _ hB)
  clear hS X0 X1 Y0 Y1
  go_enter Tryd.func49, Tryd.ntmps49
  go_wp2_with fail
  refine HS.out.mono ?_
  rintro e w2 ⟨rfl, hb2⟩
  clear HS
  go_wp2_with fail
  go_ret
  exact ⟨rfl, keep_below hb2 hB⟩
set_option linter.unusedSimpArgs false in
set_option maxRecDepth 100000 in
set_option maxHeartbeats 4000000 in
theorem valid_any (S : Option Addr) (ns cs : Nat) (F : Option Addr) (nf cf : Nat) (N : Option Addr) (nn cn : Nat) (p : Int) (A : Option Addr) (n c : Nat) (r : Int) (B : Option Addr) (m d : Nat) (locs : List Int) (ins : List NI) (sb : NI → Bool) (w : World)
    (hA : Reads w w.heap.size 1 A n c (locs.flatMap intCells)) (hI : Reads w w.heap.size 5 B m d (ins.flatMap insCells)) (hn : n ≤ 1000000) (hm : m ≤ 1000000)
    (hS : ∀ x ∈ ins, ∀ wq, Below w.heap.size w wq → Calls Tryd.prog 50 #[prV S ns cs F nf cf N nn cn, fnV p A n c r B m d, insV x] wq fun e w' => e = .returned (.bool (sb x)) ∧ Below wq.heap.size wq w') :
    Calls Tryd.prog 30 #[prV S ns cs F nf cf N nn cn, fnV p A n c r B m d] w fun e w' => e = .returned (.bool (validF locs p r ins sb)) ∧ Below w.heap.size w w' := by
  have hlen := hA.length (f := intCells) (fun _ => rfl) (by omega)
  have hlen2 := hI.length insCells_len (by omega)
  have hB0 : Below w.heap.size w ((w.alloc (.cells #[.slice S ns cs, .slice F nf cf, .slice N nn cn] 37)).alloc (.cells #[.int .i64 p, .slice A n c, .int .i64 r, .slice B m d] 49)) := keep_alloc (keep_alloc (Below.refl _ _) _) _
  have X0 := (Blk.new w #[.slice S ns cs, .slice F nf cf, .slice N nn cn] 37).alloc (.cells #[.int .i64 p, .slice A n c, .int .i64 r, .slice B m d] 49)
  have X1 := Blk.newAt (w.alloc (.cells #[.slice S ns cs, .slice F nf cf, .slice N nn cn] 37)) #[.int .i64 p, .slice A n c, .int .i64 r, .slice B m d] 49 (w.heap.size + 1) (by simp)
  have HL := Lib.hid hlen
  have HL2 := Lib.hid hlen2
  by_cases h16 : 16 < n
  · have t1 : decide ((16 : Int) < (n : Int)) = true := by simp; omega
    have HV := Lib.hid (show validF locs p r ins sb = false from by unfold validF; rw [hlen, decide_eq_false (by omega)]; rfl)
    clear hlen hlen2
    go_enter Tryd.func30, Tryd.ntmps30
    go_wp2_with fail
    go_ret
    exact ⟨by rw [HV.out]; rfl, hB0⟩
  have t1 : decide ((16 : Int) < (n : Int)) = false := by simp; omega
  have HV1 := Lib.hid (show validF locs p r ins sb = (locs.all typedB && (typedB r && (decide (0 ≤ p) && (decide (p ≤ 3 ∧ p ≤ locs.length) && (decide (1 ≤ ins.length) && (decide (ins.length ≤ 256) && (lastB ins && ins.all sb))))))) from by unfold validF; rw [hlen, decide_eq_true (by omega)]; rfl)
  clear hlen hlen2
  go_enter Tryd.func30, Tryd.ntmps30
  go_wp2_with fail
  refine (allT_any A n c locs _ (hA.belowU hB0) hn).mono ?_
  cases hT : locs.all typedB with
  | false =>
    have HV := Lib.hid (show validF locs p r ins sb = false from by rw [HV1.out, hT]; rfl)
    clear hT
    rintro e w2 ⟨rfl, hb2⟩
    have X2 := X1.below hb2
    go_wp2_with fail
    go_ret
    exact ⟨by rw [HV.out]; rfl, keep_below hb2 hB0⟩
  | true =>
  rw [hT, Bool.true_and] at HV1
  clear hT
  rintro e w2 ⟨rfl, hb2⟩
  have hB2 := keep_below hb2 hB0
  have Y0 := X0.below hb2
  have Y1 := X1.below hb2
  obtain ⟨g, hg⟩ : ∃ g, w.heap.size = g := ⟨_, rfl⟩
  have HG := Lib.hid hg
  rw [hg] at Y0 Y1 ⊢
  have y0 := Y1.cell 0 _ rfl
  have y1 := Y1.cell 1 _ rfl
  have y2 := Y1.cell 2 _ rfl
  have y3 := Y1.cell 3 _ rfl
  clear hb2 X0 X1 hB0 hg
  go_wp2_with fail
  refine (typed_any r _).mono ?_
  cases hT : typedB r with
  | false =>
    have HV := Lib.hid (show validF locs p r ins sb = false from by rw [HV1.out, hT]; rfl)
    clear hT y0 y1 y2 y3
    rintro e w3 ⟨rfl, hb3⟩
    go_wp2_with fail
    go_ret
    exact ⟨by rw [HV.out]; rfl, keep_below hb3 hB2⟩
  | true =>
  rw [hT, Bool.true_and] at HV1
  clear hT y0 y1 y2 y3
  rintro e w3 ⟨rfl, hb3⟩
  have hB3 := keep_below hb3 hB2
  have Z0 := Y0.below hb3
  have Z1 := Y1.below hb3
  have z0 := Z1.cell 0 _ rfl
  have z1 := Z1.cell 1 _ rfl
  have z2 := Z1.cell 2 _ rfl
  have z3 := Z1.cell 3 _ rfl
  clear hb3 Y0 Y1 hB2
  by_cases hp0 : p < 0
  · have t2 : decide (p < 0) = true := decide_eq_true hp0
    have HV := Lib.hid (show validF locs p r ins sb = false from by rw [HV1.out, decide_eq_false (by omega)]; rfl)
    go_wp2_with fail
    go_ret
    exact ⟨by rw [HV.out]; rfl, hB3⟩
  have t2 : decide (p < 0) = false := decide_eq_false hp0
  rw [decide_eq_true (show 0 ≤ p by omega), Bool.true_and] at HV1
  obtain ⟨mn, hmn⟩ : ∃ mn : Int, (if (n : Int) < 3 then (n : Int) else 3) = mn := ⟨_, rfl⟩
  have hmv : mn ≤ 3 ∧ mn ≤ n ∧ (mn = 3 ∨ mn = n) := by split at hmn <;> omega
  by_cases hp3 : mn < p
  · have t3 : decide (mn < p) = true := decide_eq_true hp3
    have HV := Lib.hid (show validF locs p r ins sb = false from by rw [HV1.out, decide_eq_false (by have := HL.out; omega)]; rfl)
    go_wp2_with fail
    go_ret
    exact ⟨by rw [HV.out]; rfl, hB3⟩
  have t3 : decide (mn < p) = false := decide_eq_false hp3
  rw [decide_eq_true (show p ≤ 3 ∧ p ≤ (locs.length : Int) by have := HL.out; omega), Bool.true_and] at HV1
  by_cases hm1 : m < 1
  · have t4 : decide ((m : Int) < 1) = true := decide_eq_true (by omega)
    have t5 : decide (m < 1) = true := decide_eq_true hm1
    have HV := Lib.hid (show validF locs p r ins sb = false from by rw [HV1.out, decide_eq_false (by have := HL2.out; omega)]; rfl)
    go_wp2_with fail
    go_ret
    exact ⟨by rw [HV.out]; rfl, hB3⟩
  rw [decide_eq_true (show 1 ≤ ins.length by have := HL2.out; omega), Bool.true_and] at HV1
  by_cases hm2 : 256 < m
  · have t4 : decide ((m : Int) < 1) = false := decide_eq_false (by omega)
    have t5 : decide (m < 1) = false := decide_eq_false hm1
    have t6 : decide ((256 : Int) < (m : Int)) = true := decide_eq_true (by omega)
    have t7 : decide (256 < m) = true := decide_eq_true hm2
    have HV := Lib.hid (show validF locs p r ins sb = false from by rw [HV1.out, decide_eq_false (by have := HL2.out; omega)]; rfl)
    go_wp2_with fail
    go_ret
    exact ⟨by rw [HV.out]; rfl, hB3⟩
  rw [decide_eq_true (show ins.length ≤ 256 by have := HL2.out; omega), Bool.true_and] at HV1
  obtain ⟨j, rfl⟩ : ∃ j, m = j + 1 := ⟨m - 1, by omega⟩
  have hI3 := hI.belowU hB3
  obtain ⟨b0, off, x, rfl, hbb, hx, hc⟩ := hI3.elem insCells_len (by omega) (show j < j + 1 by omega)
  obtain ⟨op, a, b, c', kk⟩ := x
  have d0 : w3.cell? ⟨b0, off + j * 5, none⟩ = some (.int .i64 op) := hc 0 _ rfl
  have hlast : lastB ins = decide (op = 11 ∨ op = 25) := by
    unfold lastB
    rw [show ins.length - 1 = j by have := HL2.out; omega, hx]
  have hw : IntKind.i64.wrap ((j : Int) + 1 - 1) = (j : Int) := by rw [show (j : Int) + 1 - 1 = (j : Int) by omega]; exact IntWalk.i64_in _ (by omega)
  have hw2 : IntKind.i64.wrap (j : Int) = (j : Int) := IntWalk.i64_in _ (by omega)
  have t4 : decide (((j + 1 : Nat) : Int) < 1) = false := decide_eq_false (by omega)
  have t5 : decide (j + 1 < 1) = false := decide_eq_false hm1
  have t4' : decide ((j : Int) + 1 < 1) = false := decide_eq_false (by omega)
  have t6 : decide ((256 : Int) < ((j + 1 : Nat) : Int)) = false := decide_eq_false (by omega)
  have t7 : decide (256 < j + 1) = false := decide_eq_false hm2
  have t6' : decide ((256 : Int) < (j : Int) + 1) = false := decide_eq_false (by omega)
  have hj0 : (0 : Int) ≤ (j : Int) := by omega
  have hj1 : (j : Int) < (j : Int) + 1 := by omega
  clear hc
  by_cases h11 : op = 11 ∨ op = 25
  · have HV := Lib.hid (show validF locs p r ins sb = ins.all sb from by rw [HV1.out, hlast, decide_eq_true h11]; rfl)
    have HC := Lib.hid (show ∀ x ∈ ins, ∀ wq, Below w3.heap.size w3 wq → Calls Tryd.prog 49 #[insV x, .pointer (some ⟨g, 0, none⟩), .pointer (some ⟨g + 1, 0, none⟩)] wq fun e w' => e = .returned (.bool (sb x)) ∧ Below wq.heap.size wq w' from fun x hx wq hq => valid1_any S ns cs F nf cf N nn cn p A n c r _ (j + 1) d x g (g + 1) (sb x) wq (Z0.below hq) (Z1.below hq) (fun wz hz => hS x hx wz (keep_below hz (keep_below hq hB3))))
    clear hlast hS hx
    have hop : (op != 11) = false ∨ ((op != 11) = true ∧ (op != 25) = false) := by
      rcases h11 with rfl | rfl
      · exact Or.inl rfl
      · exact Or.inr ⟨rfl, rfl⟩
    clear h11
    rcases hop with ho | ⟨ho, ho2⟩
    all_goals
      go_wp2_with fail
      refine (allI_any g (g + 1) _ (j + 1) d ins sb _ hI3 HC.out (by omega)).mono ?_
      rintro e w4 ⟨rfl, hb4⟩
      clear z0 z1 z2 z3 d0
      go_wp2_with fail
      go_ret
      exact ⟨by rw [HV.out]; rfl, keep_below hb4 hB3⟩
  · have HV := Lib.hid (show validF locs p r ins sb = false from by rw [HV1.out, hlast, decide_eq_false h11]; rfl)
    have ho : (op != 11) = true := by simp; exact fun e => h11 (Or.inl e)
    have ho2 : (op != 25) = true := by simp; exact fun e => h11 (Or.inr e)
    clear hlast hS hx h11
    go_wp2_with fail
    go_ret
    exact ⟨by rw [HV.out]; rfl, hB3⟩
end Go.Proofs.YtnnchinpmnpfiaaDoor

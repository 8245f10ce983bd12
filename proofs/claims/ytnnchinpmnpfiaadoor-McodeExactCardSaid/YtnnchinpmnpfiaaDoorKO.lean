/- light: whether a program is not too large. -/
import Derived.Test.YtnnchinpmnpfiaaDoorKN
import Derived.Test.YtnnchinpmnpfiaaDoorKM
namespace Go.Proofs.YtnnchinpmnpfiaaDoor
open Go.ChangeShapes Go.WideShapes Go.RowKit Words

structure LightP (P : Prg) : Prop where
  nf : P.fns.length ≤ 30
  ns : P.shs.length ≤ 30
  nn : P.nats.length ≤ 30
  each : ∀ f ∈ P.fns, f.ins.length ≤ 300 ∧ f.locs.length ≤ 30
def RetLight (w : World) (P : Prg) (e : Ending) (w' : World) : Prop := ∃ v : Bool, e = .returned (.bool v) ∧ (v = true → LightP P) ∧ Below w.heap.size w w'
theorem LightP.ok {P : Prg} (h : LightP P) (hi : P.okI) : P.ok :=
  ⟨by have := h.ns; omega, by have := h.nf; omega, by have := h.nn; omega, hi.shs, fun f hf => ⟨(hi.fns f hf).p, (hi.fns f hf).r, by have := (h.each f hf).2; omega, by have := (h.each f hf).1; omega, (hi.fns f hf).ins⟩⟩
set_option linter.unusedSimpArgs false in
set_option linter.unusedVariables false in
set_option maxRecDepth 100000 in
set_option maxHeartbeats 4000000 in
theorem light_any (S : Option Addr) (ns cs : Nat) (F : Option Addr) (nf cf : Nat) (N : Option Addr) (nn cn : Nat) (P : Prg) (fcs : List FC) (w : World) (hR : PrAt w S ns cs F nf cf N nn cn P fcs) :
    Calls Tryd.prog 6 #[prV S ns cs F nf cf N nn cn] w (RetLight w P) := by
  have hlF := hR.fns.length fcCells_len (by omega)
  have hlS := hR.shs.length (f := hdCells) (fun _ => rfl) (by omega)
  have hlN := hR.nats.length (f := intCells) (fun _ => rfl) (by omega)
  have hlf : P.fns.length = nf := by have := hR.each.1; omega
  have HLF := Lib.hid hlf
  have HLS := Lib.hid hlS
  have HLN := Lib.hid hlN
  have hba : Below w.heap.size w (w.alloc (.cells #[.slice S ns cs, .slice F nf cf, .slice N nn cn] 26)) := keep_alloc (Below.refl _ _) _
  have P0 := Blk.new w #[.slice S ns cs, .slice F nf cf, .slice N nn cn] 26
  have hR1 := hR.below hba
  have HB := Lib.hid hba
  have p0 := P0.cell 0 _ rfl
  have p1 := P0.cell 1 _ rfl
  have p2 := P0.cell 2 _ rfl
  clear hlF hlS hlN hlf hR hba P0
  by_cases h1 : 30 < nf
  · have e1 : decide ((30 : Int) < (nf : Int)) = true := decide_eq_true (by omega)
    have e2 : decide (30 < nf) = true := decide_eq_true h1
    clear hR1 h1
    go_enter Tryd.func6, Tryd.ntmps6
    go_wp2_with fail
    go_ret
    exact ⟨false, rfl, (fun h => by cases h), HB.out⟩
  have e1 : decide ((30 : Int) < (nf : Int)) = false := decide_eq_false (by omega)
  have e1' : decide (30 < nf) = false := decide_eq_false h1
  by_cases h2 : 30 < ns
  · have e2 : decide ((30 : Int) < (ns : Int)) = true := decide_eq_true (by omega)
    have e2' : decide (30 < ns) = true := decide_eq_true h2
    clear hR1 h1 h2
    go_enter Tryd.func6, Tryd.ntmps6
    go_wp2_with fail
    go_ret
    exact ⟨false, rfl, (fun h => by cases h), HB.out⟩
  have e2 : decide ((30 : Int) < (ns : Int)) = false := decide_eq_false (by omega)
  have e2' : decide (30 < ns) = false := decide_eq_false h2
  by_cases h3 : 30 < nn
  · have e3 : decide ((30 : Int) < (nn : Int)) = true := decide_eq_true (by omega)
    have e3' : decide (30 < nn) = true := decide_eq_true h3
    clear hR1 h1 h2 h3
    go_enter Tryd.func6, Tryd.ntmps6
    go_wp2_with fail
    go_ret
    exact ⟨false, rfl, (fun h => by cases h), HB.out⟩
  have e3 : decide ((30 : Int) < (nn : Int)) = false := decide_eq_false (by omega)
  have e3' : decide (30 < nn) = false := decide_eq_false h3
  have hnf : nf ≤ 30 := by omega
  have HN3 := Lib.hid (show nf ≤ 30 ∧ ns ≤ 30 ∧ nn ≤ 30 from ⟨by omega, by omega, by omega⟩)
  clear h1 h2 h3
  go_enter Tryd.func6, Tryd.ntmps6
  go_wp2_with fail
  obtain ⟨w1, hw1⟩ : ∃ w1, w.alloc (.cells #[.slice S ns cs, .slice F nf cf, .slice N nn cn] 26) = w1 := ⟨_, rfl⟩
  rw [hw1] at p0 p1 p2 hR1 HB ⊢
  obtain ⟨g, hg⟩ : ∃ g, w.heap.size = g := ⟨_, rfl⟩
  have HG := Lib.hid hg
  rw [hg] at p0 p1 p2 ⊢
  clear hw1 hg
  go_loop [3] (fun x => ∃ i : Nat, i ≤ nf ∧ x = .int .i64 i ∧ ∀ (j : Nat) f, j < i → P.fns[j]? = some f → f.ins.length ≤ 300 ∧ f.locs.length ≤ 30) (fun x => nf - (intOf x).toNat)
  case atStart => exact ⟨0, Nat.zero_le _, rfl, fun j f h => by omega⟩
  case round =>
    obtain ⟨i, hi, rfl, hall⟩ := hrel
    have HALL := Lib.hid hall
    clear hall
    by_cases hlt : i < nf
    · obtain ⟨bF, oF, x, hFe, hbF, hx, hcF⟩ := hR1.fns.elem fcCells_len (by omega) hlt
      obtain ⟨f, hf⟩ : ∃ f, P.fns[i]? = some f := ⟨_, List.getElem?_eq_getElem (by have := HLF.out; omega)⟩
      have hat := hR1.each.2 i x f hx hf
      have l1 := hat.locs.length (f := intCells) (fun _ => rfl) (by omega)
      have l2 := hat.ins.length insCells_len (by omega)
      obtain ⟨p, A, n, c, r, B, m, d⟩ := x
      dsimp only at l1 l2
      have f1 := hcF 1 _ rfl
      have f3 := hcF 3 _ rfl
      dsimp only at f1 f3
      have k0 : (0 : Int) ≤ (i : Int) := by omega
      have k1 : (i : Int) < (nf : Int) := by omega
      have hd1 : decide ((i : Int) < (nf : Int)) = true := decide_eq_true k1
      have hd2 : decide (i < nf) = true := decide_eq_true hlt
      have wi : IntKind.i64.wrap ((i : Int) + 1) = (i : Int) + 1 := IntWalk.i64_in _ (by omega)
      have HF := Lib.hid hf
      have HL1 := Lib.hid l1
      have HL2 := Lib.hid l2
      subst hFe
      clear hcF hx hf hat l1 l2 hR1 hbF
      by_cases g1 : 300 < m
      · have t1 : decide ((300 : Int) < (m : Int)) = true := decide_eq_true (by omega)
        have t1' : decide (300 < m) = true := decide_eq_true g1
        clear g1
        go_wp2_with fail
        go_ret
        exact ⟨false, rfl, (fun h => by cases h), HB.out⟩
      have t1 : decide ((300 : Int) < (m : Int)) = false := decide_eq_false (by omega)
      have t1' : decide (300 < m) = false := decide_eq_false g1
      by_cases g2 : 30 < n
      · have t2 : decide ((30 : Int) < (n : Int)) = true := decide_eq_true (by omega)
        have t2' : decide (30 < n) = true := decide_eq_true g2
        clear g1 g2
        go_wp2_with fail
        go_ret
        exact ⟨false, rfl, (fun h => by cases h), HB.out⟩
      have t2 : decide ((30 : Int) < (n : Int)) = false := decide_eq_false (by omega)
      have t2' : decide (30 < n) = false := decide_eq_false g2
      have HG12 := Lib.hid (show ¬ 300 < m ∧ ¬ 30 < n from ⟨g1, g2⟩)
      clear g1 g2
      go_wp2_with fail
      go_round
      case rel =>
        refine ⟨i + 1, by omega, by go_num, fun j f' hj hf' => ?_⟩
        by_cases hji : j < i
        · exact HALL.out j f' hji hf'
        · obtain rfl : j = i := by omega
          rw [HF.out] at hf'
          cases hf'
          have := HG12.out
          have a1 := HL1.out
          have a2 := HL2.out
          omega
      case measure => simp [intOf]; omega
    · have hin : i = nf := by omega
      subst hin
      have hd1 : decide ((i : Int) < (i : Int)) = false := by simp
      have hd2 : decide (i < i) = false := by simp
      clear hlt hR1
      go_wp2_with fail
      go_ret
      exact ⟨true, rfl, fun _ => ⟨by have := HLF.out; have := HN3.out; omega, by have := HLS.out; have := HN3.out; omega, by have := HLN.out; have := HN3.out; omega, fun f hf => by
        obtain ⟨j, hj⟩ := List.mem_iff_getElem?.1 hf
        exact HALL.out j f (by have := (List.getElem?_eq_some_iff.1 hj).1; have := HLF.out; omega) hj⟩, HB.out⟩
end Go.Proofs.YtnnchinpmnpfiaaDoor
/- A made program is right: the plain law. -/
namespace Go.Proofs.YtnnchinpmnpfiaaDoor
open Go.ChangeShapes Go.WideShapes Go.RowKit Words

theorem HdOk.right {h : HD} (hh : HdOk h) : shB 16 8 h = true := by
  obtain ⟨k, len, m⟩ := h
  obtain ⟨h1, h2, h3, h4, h5⟩ := hh
  dsimp only at h1 h2 h3 h4 h5
  subst h1
  have hl : len = 0 ∨ len = 1 ∨ len = 2 ∨ len = 3 := by omega
  rcases hl with rfl | rfl | rfl | rfl
  · have hm : m = 0 := by simp at h5; omega
    subst hm; decide
  · have hm : m = 0 ∨ m = 1 := by simp at h5; omega
    rcases hm with rfl | rfl <;> decide
  · have hm : m = 0 ∨ m = 1 ∨ m = 2 ∨ m = 3 := by simp at h5; omega
    rcases hm with rfl | rfl | rfl | rfl <;> decide
  · have hm : m = 0 ∨ m = 1 ∨ m = 2 ∨ m = 3 ∨ m = 4 ∨ m = 5 ∨ m = 6 ∨ m = 7 := by simp at h5; omega
    rcases hm with rfl | rfl | rfl | rfl | rfl | rfl | rfl | rfl <;> decide
theorem made_right {P : Prg} (h : MadeOk P) : checkB P 16 8 = true := by
  unfold checkB
  have a1 := h.nf1
  have a2 := h.nf3
  have a3 := h.ns3
  have a4 := h.nn2
  rw [decide_eq_true a1, decide_eq_true (show P.fns.length ≤ 16 by omega), decide_eq_true (show P.shs.length ≤ 16 by omega), decide_eq_true (show P.nats.length ≤ 16 by omega)]
  have b1 : P.shs.all (shB 16 8) = true := List.all_eq_true.2 fun x hx => (h.shs x hx).right
  have b2 : P.nats.all fewB = true := List.all_eq_true.2 fun q hq => by
    have := h.nats q hq
    exact decide_eq_true (by omega)
  have b3 : headB P = true := by
    obtain ⟨f, hf, h1, h2⟩ := h.heads
    unfold headB
    rw [hf]
    dsimp only
    rw [decide_eq_true h1, decide_eq_true h2]
    rfl
  have b4 : P.fns.all (fnB P) = true := List.all_eq_true.2 fun f hf => by
    have c1 := h.fok f hf
    have c2 := h.fns f hf
    have n4 := c1.n4
    have n7 := c1.n7
    unfold fnB validF
    have t1 : f.locs.all typedB = true := List.all_eq_true.2 fun z hz => decide_eq_true (c1.typed z hz)
    have t2 : typedB f.r = true := decide_eq_true c1.r12
    have t3 : lastB f.ins = true := by
      obtain ⟨x, hx, hop⟩ := c2.last
      unfold lastB
      rw [hx]
      exact decide_eq_true (Or.inr hop)
    have t4 : f.ins.all (suitB P f) = true := List.all_eq_true.2 fun x hx => by
      rw [suitB_M]
      exact (c2.each x hx).1
    have p0 := c1.p0
    have p2 := c1.p2
    have i1 := c2.n1
    have i2 := c2.n26
    rw [decide_eq_true (show f.locs.length ≤ 16 by omega), t1, t2, decide_eq_true p0, decide_eq_true (show f.p ≤ 3 ∧ f.p ≤ f.locs.length by omega), decide_eq_true i1, decide_eq_true (show f.ins.length ≤ 256 by omega), t3, t4]
    rfl
  rw [b1, b2, b3, b4]
  rfl
end Go.Proofs.YtnnchinpmnpfiaaDoor

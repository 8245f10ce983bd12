/- The contracts of awake and light. -/
import Derived.Test.YtmcdhpbkhchpeaaScope10
namespace Go.Proofs.Ytmcdhpbkhchpeaa
open Go.ChangeShapes Go.WideShapes Go.RowKit Words

theorem light_any (As : Option Addr) (ns cs : Nat) (Ap : Option Addr) (np cp : Nat) (Ai : Option Addr) (ni ci : Nat) (w : World) :
    Calls Try.prog 13 #[locV As ns cs Ap np cp Ai ni ci] w fun e w' => e = .returned (.bool (decide (ns ≤ 200 ∧ np ≤ 100 ∧ ni ≤ 5000))) ∧ Below w.heap.size w w' := by
  have hB := loc_alloc w 26 (.slice As ns cs) (.slice Ap np cp) (.slice Ai ni ci)
  have B0 := Blk.new w #[.slice As ns cs, .slice Ap np cp, .slice Ai ni ci] 26
  have b1 := B0.cell 1 _ rfl
  have b2 := B0.cell 2 _ rfl
  by_cases h1 : ns ≤ 200
  · have e1 : decide ((ns : Int) ≤ 200) = true := by simp; omega
    by_cases h2 : np ≤ 100
    · have e2 : decide ((np : Int) ≤ 100) = true := by simp; omega
      have HV := Lib.hid (show decide (ns ≤ 200 ∧ np ≤ 100 ∧ ni ≤ 5000) = decide ((ni : Int) ≤ 5000) by simp [h1, h2]; omega)
      clear h1 h2
      go_enter Try.func13, Try.ntmps13
      go_wp2_with fail
      go_ret
      exact ⟨ret_sb HV.out.symm, hB⟩
    · have e2 : decide ((np : Int) ≤ 100) = false := by simp; omega
      have HV := Lib.hid (show decide (ns ≤ 200 ∧ np ≤ 100 ∧ ni ≤ 5000) = false from decide_eq_false (fun h => h2 h.2.1))
      clear h1 h2
      go_enter Try.func13, Try.ntmps13
      go_wp2_with fail
      go_ret
      exact ⟨ret_sb HV.out.symm, hB⟩
  · have e1 : decide ((ns : Int) ≤ 200) = false := by simp; omega
    have HV := Lib.hid (show decide (ns ≤ 200 ∧ np ≤ 100 ∧ ni ≤ 5000) = false from decide_eq_false (fun h => h1 h.1))
    clear h1
    go_enter Try.func13, Try.ntmps13
    go_wp2_with fail
    go_ret
    exact ⟨ret_sb HV.out.symm, hB⟩

def lc1 : Lc := ⟨[], [⟨0, 2, true⟩], []⟩
def lc2 : Lc := ⟨[⟨1, 7#64, true⟩], [⟨0, 2, true⟩], [0]⟩
theorem awake1 : openL ⟨[], [], []⟩ 2 true = (lc1, 0) := by decide
theorem awake2 : newL ⟨lc1.s, lc1.p, lc1.i⟩ 7#64 = (lc2, 0, 1, 0) := by decide
theorem awake3 : getL ⟨lc2.s, lc2.p, lc2.i⟩ 0 1 = (7#64, 0) := by decide

/-- block g is a variable that holds local handles -/
def LBox (w : World) (g : Nat) (As : Option Addr) (ns cs : Nat) (Ap : Option Addr) (np cp : Nat) (Ai : Option Addr) (ni ci : Nat) : Prop := Blk w g 26 #[.slice As ns cs, .slice Ap np cp, .slice Ai ni ci]

set_option maxHeartbeats 4000000 in
theorem awake_any (w : World) : Calls Try.prog 11 #[] w fun e w' => e = .returned (.bool true) ∧ Below w.heap.size w w' := by
  go_enter Try.func11, Try.ntmps11
  go_wp2_with fail
  refine (enter_any none 0 0 none 0 0 none 0 0 [] [] [] 2 _ (LRd.nil _) (by omega) (by omega) (by omega)).mono ?_
  rw [awake1]
  rintro e w1 ⟨A1, c1, A2, c2, A3, c3, rfl, hown, hb1⟩
  have B1 := Blk.new w1 #[.slice A1 lc1.s.length c1, .slice A2 lc1.p.length c2, .slice A3 lc1.i.length c3] 26
  have b0 := B1.cell 0 _ rfl
  have b1 := B1.cell 1 _ rfl
  have b2 := B1.cell 2 _ rfl
  have f0 := B1.free
  have hr1 := hown.rd.alloc (.cells #[.slice A1 lc1.s.length c1, .slice A2 lc1.p.length c2, .slice A3 lc1.i.length c3] 26)
  have hB1 := keep_alloc hb1 (.cells #[.slice A1 lc1.s.length c1, .slice A2 lc1.p.length c2, .slice A3 lc1.i.length c3] 26)
  have hg : w.heap.size ≤ w1.heap.size := hb1.size
  clear hown hb1
  have HR := Lib.hid hr1
  clear hr1
  go_wp2_with fail
  refine (new_any A1 _ c1 A2 _ c2 A3 _ c3 _ _ _ 7#64 _ HR.out (by decide) (by decide) (by decide)).mono ?_
  rw [awake2]
  rintro e w2 ⟨A4, c4, A5, c5, A6, c6, rfl, hown2, hb2⟩
  have B2 := B1.below hb2
  have d0 := B2.cell 0 _ rfl
  have d1 := B2.cell 1 _ rfl
  have d2 := B2.cell 2 _ rfl
  have fd := B2.free
  have G := B2.set 0 (.slice A4 lc2.s.length c4) |>.set 1 (.slice A5 lc2.p.length c5) |>.set 2 (.slice A6 lc2.i.length c6)
  have g0 := G.cell 0 _ rfl
  have g1 := G.cell 1 _ rfl
  have g2 := G.cell 2 _ rfl
  have hO := ((hown2.far (a := ⟨w1.heap.size, 0, none⟩) (by simp) (.slice A4 lc2.s.length c4)).far (a := ⟨w1.heap.size, 1, none⟩) (by simp) (.slice A5 lc2.p.length c5)).far (a := ⟨w1.heap.size, 2, none⟩) (by simp) (.slice A6 lc2.i.length c6)
  have HR2 := Lib.hid hO.rd
  have HB2 := Lib.hid ((((keep_below hb2 hB1).setCell (p := ⟨w1.heap.size, 0, none⟩) hg (.slice A4 lc2.s.length c4)).setCell (p := ⟨w1.heap.size, 1, none⟩) hg (.slice A5 lc2.p.length c5)).setCell (p := ⟨w1.heap.size, 2, none⟩) hg (.slice A6 lc2.i.length c6))
  clear hO hown2 G B2 hb2 hB1 B1
  go_wp2_with fail
  refine (get_any A4 _ c4 A5 _ c5 A6 _ c6 _ _ _ 0 1 _ HR2.out).mono ?_
  rw [awake3]
  rintro e w3 ⟨rfl, hb3⟩
  unfold retG
  rw [show U 7#64 = 7 from rfl]
  go_wp2_with fail
  go_ret
  exact ⟨rfl, keep_below hb3 HB2.out⟩
end Go.Proofs.Ytmcdhpbkhchpeaa

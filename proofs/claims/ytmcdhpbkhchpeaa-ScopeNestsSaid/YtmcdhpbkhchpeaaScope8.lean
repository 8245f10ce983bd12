/- The contracts of open, Enter and Push. -/
import Derived.Test.YtmcdhpbkhchpeaaScope7
import Derived.Test.YtmcdhpbkhchpeaaOwn
namespace Go.Proofs.Ytmcdhpbkhchpeaa
open Go.ChangeShapes Go.WideShapes Go.RowKit Words

/-- local handles -/
structure Lc where
  s : List Sl
  p : List Sc
  i : List Int
deriving DecidableEq
def Lc.nil : Lc := ⟨[], [], []⟩
def Lc.valid (x : Lc) : Bool := validL x.s x.p x.i
def openL (x : Lc) (c : Int) (b : Bool) : Lc × Int :=
  if x.valid = false ∨ c < 0 ∨ 64 < c then (Lc.nil, 1) else if b = false ∧ x.p.length = 0 then (Lc.nil, 9) else if 64 ≤ x.p.length then (Lc.nil, 17) else (⟨x.s, x.p ++ [⟨x.s.length, c, b⟩], x.i⟩, 0)
theorem openL_arg {x : Lc} {c : Int} {b : Bool} (h : x.valid = false ∨ c < 0 ∨ 64 < c) : openL x c b = (Lc.nil, 1) := by unfold openL; rw [if_pos h]
theorem openL_scope {x : Lc} {c : Int} {b : Bool} (h : ¬ (x.valid = false ∨ c < 0 ∨ 64 < c)) (h2 : b = false ∧ x.p.length = 0) : openL x c b = (Lc.nil, 9) := by unfold openL; rw [if_neg h, if_pos h2]
theorem openL_depth {x : Lc} {c : Int} {b : Bool} (h : ¬ (x.valid = false ∨ c < 0 ∨ 64 < c)) (h2 : ¬ (b = false ∧ x.p.length = 0)) (h3 : 64 ≤ x.p.length) : openL x c b = (Lc.nil, 17) := by unfold openL; rw [if_neg h, if_neg h2, if_pos h3]
theorem openL_ok {x : Lc} {c : Int} {b : Bool} (h : ¬ (x.valid = false ∨ c < 0 ∨ 64 < c)) (h2 : ¬ (b = false ∧ x.p.length = 0)) (h3 : ¬ 64 ≤ x.p.length) : openL x c b = (⟨x.s, x.p ++ [⟨x.s.length, c, b⟩], x.i⟩, 0) := by unfold openL; rw [if_neg h, if_neg h2, if_neg h3]
theorem LOwn.nil (w : World) (base : Nat) : LOwn w base none 0 0 none 0 0 none 0 0 [] [] [] := ⟨World.ownsRow_nil _ _ _ _, World.ownsRow_nil _ _ _ _, World.ownsRow_nil _ _ _ _⟩
/-- local handles of the call's own and an error code come back -/
def RetLE (w : World) (r : Lc × Int) (e : Ending) (w' : World) : Prop :=
  ∃ As cs Ap cp Ai ci, e = .returned (.tuple #[locV As r.1.s.length cs Ap r.1.p.length cp Ai r.1.i.length ci, .int .i64 r.2]) ∧ LOwn w' w.heap.size As r.1.s.length cs Ap r.1.p.length cp Ai r.1.i.length ci r.1.s r.1.p r.1.i ∧ Below w.heap.size w w'
section
variable {w : World} {g : Nat} {t : TypeId} {a b c : Value}
/-- three cells: a block whose cells are written out stays written out -/
theorem Blk.put0 (h : Blk w g t #[a, b, c]) (x : Value) : Blk (w.setCell ⟨g, 0, none⟩ x) g t #[x, b, c] := h.set 0 x
theorem Blk.put1 (h : Blk w g t #[a, b, c]) (x : Value) : Blk (w.setCell ⟨g, 1, none⟩ x) g t #[a, x, c] := h.set 1 x
theorem Blk.put2 (h : Blk w g t #[a, b, c]) (x : Value) : Blk (w.setCell ⟨g, 2, none⟩ x) g t #[a, b, x] := h.set 2 x
theorem Blk.put3 (h : Blk w g t #[a, b, c]) (x y z : Value) : Blk (((w.setCell ⟨g, 0, none⟩ x).setCell ⟨g, 1, none⟩ y).setCell ⟨g, 2, none⟩ z) g t #[x, y, z] := ((h.put0 x).put1 y).put2 z
end
theorem keep_set3 {w w' : World} (hb : Below w.heap.size w w') (a b c : Value) : Below w.heap.size w (((w'.setCell ⟨w.heap.size + 1, 0, none⟩ a).setCell ⟨w.heap.size + 1, 1, none⟩ b).setCell ⟨w.heap.size + 1, 2, none⟩ c) :=
  ((hb.setCell (by show w.heap.size ≤ w.heap.size + 1; omega) _).setCell (by show w.heap.size ≤ w.heap.size + 1; omega) _).setCell (by show w.heap.size ≤ w.heap.size + 1; omega) _
theorem RetLE.fail {w w' : World} {er : Int} {a b c : Value} (hb : Below w.heap.size w w') : RetLE w (Lc.nil, er) (.returned (.tuple #[locV none 0 0 none 0 0 none 0 0, .int .i64 er])) (((w'.setCell ⟨w.heap.size + 1, 0, none⟩ a).setCell ⟨w.heap.size + 1, 1, none⟩ b).setCell ⟨w.heap.size + 1, 2, none⟩ c) :=
  ⟨none, 0, none, 0, none, 0, rfl, LOwn.nil _ _, keep_set3 hb a b c⟩

set_option linter.unusedSimpArgs false in
set_option maxHeartbeats 4000000 in
theorem open_any (As : Option Addr) (ns cs : Nat) (Ap : Option Addr) (np cp : Nat) (Ai : Option Addr) (ni ci : Nat) (S : List Sl) (P : List Sc) (I : List Int) (c : Int) (b : Bool) (w : World) (h : LRd w As ns cs Ap np cp Ai ni ci S P I)
    (hs : ns ≤ 1000000) (hp : np ≤ 1000000) (hi : ni ≤ 1000000) :
    Calls Try.prog 34 #[locV As ns cs Ap np cp Ai ni ci, .int .i64 c, .bool b] w (RetLE w (openL ⟨S, P, I⟩ c b)) := by
  obtain ⟨hS, hP, hI⟩ := h.lens
  have hB : Below w.heap.size w ((w.alloc (.cells #[.slice As ns cs, .slice Ap np cp, .slice Ai ni ci] 26)).alloc (.cells #[.slice none 0 0, .slice none 0 0, .slice none 0 0] 26)) := keep_alloc (loc_alloc w _ _ _ _) _
  have B0 := (Blk.new w #[.slice As ns cs, .slice Ap np cp, .slice Ai ni ci] 26).alloc (.cells #[.slice none 0 0, .slice none 0 0, .slice none 0 0] 26)
  have R0 := Blk.newAt (w.alloc (.cells #[.slice As ns cs, .slice Ap np cp, .slice Ai ni ci] 26)) #[.slice none 0 0, .slice none 0 0, .slice none 0 0] 26 (w.heap.size + 1) (by simp)
  have hh := h.belowU hB
  have HV := Lib.hid (rfl : validL S P I = validL S P I)
  obtain ⟨vb, hvb⟩ : ∃ vb, validL S P I = vb := ⟨_, rfl⟩
  have HVB := Lib.hid hvb
  have HS := Lib.hid hS
  have HP := Lib.hid hP
  have HI := Lib.hid hI
  have hsz : ((w.alloc (.cells #[.slice As ns cs, .slice Ap np cp, .slice Ai ni ci] 26)).alloc (.cells #[.slice none 0 0, .slice none 0 0, .slice none 0 0] 26)).heap.size = w.heap.size + 2 := by simp
  have HSZ := Lib.hid hsz
  clear h hS hP hI HV hvb hsz
  by_cases hbad : vb = false ∨ c < 0 ∨ 64 < c
  · have HR := Lib.hid (openL_arg (x := ⟨S, P, I⟩) (c := c) (b := b) (by unfold Lc.valid; rw [HVB.out]; exact hbad))
    rw [HR.out]
    go_enter Try.func34, Try.ntmps34
    go_wp2_with fail
    refine (valid_any As ns cs Ap np cp Ai ni ci S P I _ hh).mono ?_
    rw [HVB.out]
    rintro e w1 ⟨rfl, hb1⟩
    have R1 := R0.below hb1
    have fr := R1.free
    have r0 := R1.cell 0 _ rfl
    have r1 := R1.cell 1 _ rfl
    have r2 := R1.cell 2 _ rfl
    have g2 := R1.set 0 (.slice none 0 0) |>.set 1 (.slice none 0 0) |>.set 2 (.slice none 0 0)
    have g20 := g2.cell 0 _ rfl
    have g21 := g2.cell 1 _ rfl
    have g22 := g2.cell 2 _ rfl
    have hB1 := keep_below hb1 hB
    clear R1 g2 hb1 hB B0 R0 hh
    by_cases hv : vb = false
    · subst hv
      go_wp2_with fail
      refine bodyPost_ret (v := .tuple #[locV none 0 0 none 0 0 none 0 0, .int .i64 1]) (by simp [results, Try.results34, go_sem, g20, g21, g22]) rfl ?_
      exact RetLE.fail hB1
    · have hv1 : vb = true := by simpa using hv
      subst hv1
      by_cases h0 : c < 0
      · have e0 : decide (c < 0) = true := decide_eq_true h0
        clear hbad hv
        go_wp2_with fail
        refine bodyPost_ret (v := .tuple #[locV none 0 0 none 0 0 none 0 0, .int .i64 1]) (by simp [results, Try.results34, go_sem, g20, g21, g22]) rfl ?_
        exact RetLE.fail hB1
      · have e0 : decide (c < 0) = false := decide_eq_false h0
        have e1 : decide (64 < c) = true := decide_eq_true (by rcases hbad with h | h | h; exact absurd h hv; exact absurd h h0; exact h)
        clear hbad hv
        go_wp2_with fail
        refine bodyPost_ret (v := .tuple #[locV none 0 0 none 0 0 none 0 0, .int .i64 1]) (by simp [results, Try.results34, go_sem, g20, g21, g22]) rfl ?_
        exact RetLE.fail hB1
  have hvt : vb = true := by cases vb; exact absurd (Or.inl rfl) hbad; rfl
  have e0 : decide (c < 0) = false := decide_eq_false (fun h => hbad (Or.inr (Or.inl h)))
  have e1 : decide (64 < c) = false := decide_eq_false (fun h => hbad (Or.inr (Or.inr h)))
  subst hvt
  have HBAD := Lib.hid (show ¬ ((⟨S, P, I⟩ : Lc).valid = false ∨ c < 0 ∨ 64 < c) by unfold Lc.valid; rw [HVB.out]; exact hbad)
  have hnp64 : np ≤ 64 := by
    have := HVB.out
    unfold validL at this
    simp only [Bool.and_eq_true] at this
    have := (nestedB_go this.2.1).2.1
    rw [HP.out] at this; exact this
  clear hbad
  go_enter Try.func34, Try.ntmps34
  go_wp2_with fail
  refine (valid_any As ns cs Ap np cp Ai ni ci S P I _ hh).mono ?_
  rw [HVB.out]
  rintro e w1 ⟨rfl, hb1⟩
  have B1 := B0.below hb1
  have R1 := R0.below hb1
  have hh1 := hh.belowU hb1
  have hB1 := keep_below hb1 hB
  have hs1 : w.heap.size + 2 ≤ w1.heap.size := by have := HSZ.out; have := hb1.size; omega
  have b0 := B1.cell 0 _ rfl
  have b1 := B1.cell 1 _ rfl
  have b2 := B1.cell 2 _ rfl
  clear B0 R0 hh hB hb1
  by_cases hsc : b = false ∧ np = 0
  · have HR := Lib.hid (openL_scope HBAD.out (b := b) ⟨hsc.1, by rw [HP.out]; exact hsc.2⟩)
    have fr := R1.free
    have r0 := R1.cell 0 _ rfl
    have r1 := R1.cell 1 _ rfl
    have r2 := R1.cell 2 _ rfl
    have g2 := R1.set 0 (.slice none 0 0) |>.set 1 (.slice none 0 0) |>.set 2 (.slice none 0 0)
    have g20 := g2.cell 0 _ rfl
    have g21 := g2.cell 1 _ rfl
    have g22 := g2.cell 2 _ rfl
    obtain ⟨rfl, hz⟩ := hsc
    have hz1 : ((np : Int) == 0) = true := by simp; omega
    clear R1 B1 g2 hz hh1
    go_wp2_with fail
    refine bodyPost_ret (v := .tuple #[locV none 0 0 none 0 0 none 0 0, .int .i64 9]) (by simp [results, Try.results34, go_sem, g20, g21, g22]) rfl ?_
    rw [HR.out]
    exact RetLE.fail hB1
  have HSC := Lib.hid (show ¬ (b = false ∧ (⟨S, P, I⟩ : Lc).p.length = 0) by dsimp only; rw [HP.out]; exact hsc)
  have hcs : b = true ∨ (b = false ∧ ((np : Int) == 0) = false) := by
    cases b
    · right; exact ⟨rfl, by have := fun e => hsc ⟨rfl, e⟩; simp; omega⟩
    · exact Or.inl rfl
  clear hsc
  by_cases hd : 64 ≤ np
  · have HR := Lib.hid (openL_depth HBAD.out HSC.out (by rw [HP.out]; exact hd))
    have fr := R1.free
    have r0 := R1.cell 0 _ rfl
    have r1 := R1.cell 1 _ rfl
    have r2 := R1.cell 2 _ rfl
    have g2 := R1.set 0 (.slice none 0 0) |>.set 1 (.slice none 0 0) |>.set 2 (.slice none 0 0)
    have g20 := g2.cell 0 _ rfl
    have g21 := g2.cell 1 _ rfl
    have g22 := g2.cell 2 _ rfl
    have e2 : decide ((64 : Int) ≤ (np : Int)) = true := by simp; omega
    clear R1 B1 g2 hh1 hd hnp64
    rcases hcs with rfl | ⟨rfl, hz⟩
    all_goals
      go_wp2_with fail
      refine bodyPost_ret (v := .tuple #[locV none 0 0 none 0 0 none 0 0, .int .i64 17]) (by simp [results, Try.results34, go_sem, g20, g21, g22]) rfl ?_
      rw [HR.out]
      exact RetLE.fail hB1
  · have HR := Lib.hid (openL_ok HBAD.out HSC.out (by rw [HP.out]; exact hd))
    have e2 : decide ((64 : Int) ≤ (np : Int)) = false := by simp; omega
    have HHS := Lib.hid hs
    have HHI := Lib.hid hi
    clear hnp64 hp hs hi
    rcases hcs with rfl | ⟨rfl, hz⟩
    · go_wp2_with fail
      refine (clone_any As ns cs Ap np cp Ai ni ci S P I _ hh1 HHS.out (by omega) HHI.out).mono ?_
      rintro e w2 ⟨A1, c1, A2, c2, A3, c3, rfl, hown, hb2⟩
      have B2 := B1.below hb2
      have R2 := R1.below hb2
      have hs2 : w1.heap.size ≤ w2.heap.size := hb2.size
      have hB2 := keep_below hb2 hB1
      have T3 := B2.set 0 (.slice A1 ns c1) |>.set 1 (.slice A2 np c2) |>.set 2 (.slice A3 ni c3)
      have R3 := ((R2.far (p := ⟨w.heap.size, 0, none⟩) (by show w.heap.size + 1 ≠ w.heap.size; omega) (.slice A1 ns c1)).far (p := ⟨w.heap.size, 1, none⟩) (by show w.heap.size + 1 ≠ w.heap.size; omega) (.slice A2 np c2)).far (p := ⟨w.heap.size, 2, none⟩) (by show w.heap.size + 1 ≠ w.heap.size; omega) (.slice A3 ni c3)
      have hown3 := ((hown.far (a := ⟨w.heap.size, 0, none⟩) (by show w.heap.size < _; omega) (.slice A1 ns c1)).far (a := ⟨w.heap.size, 1, none⟩) (by show w.heap.size < _; omega) (.slice A2 np c2)).far (a := ⟨w.heap.size, 2, none⟩) (by show w.heap.size < _; omega) (.slice A3 ni c3)
      have hB3 : Below w.heap.size w (((w2.setCell ⟨w.heap.size, 0, none⟩ (.slice A1 ns c1)).setCell ⟨w.heap.size, 1, none⟩ (.slice A2 np c2)).setCell ⟨w.heap.size, 2, none⟩ (.slice A3 ni c3)) :=
        ((hB2.setCell (by show w.heap.size ≤ w.heap.size; omega) _).setCell (by show w.heap.size ≤ w.heap.size; omega) _).setCell (by show w.heap.size ≤ w.heap.size; omega) _
      have hs3 : (((w2.setCell ⟨w.heap.size, 0, none⟩ (.slice A1 ns c1)).setCell ⟨w.heap.size, 1, none⟩ (.slice A2 np c2)).setCell ⟨w.heap.size, 2, none⟩ (.slice A3 ni c3)).heap.size = w2.heap.size := by simp
      have b0' := B2.cell 0 _ rfl
      have b1' := B2.cell 1 _ rfl
      have b2' := B2.cell 2 _ rfl
      have fb := B2.free
      have t0 : (((w2.setCell ⟨w.heap.size, 0, none⟩ (.slice A1 ns c1)).setCell ⟨w.heap.size, 1, none⟩ (.slice A2 np c2)).setCell ⟨w.heap.size, 2, none⟩ (.slice A3 ni c3)).cell? ⟨w.heap.size, 0, none⟩ = some (.slice A1 ns c1) := T3.cell 0 _ rfl
      have t1 : (((w2.setCell ⟨w.heap.size, 0, none⟩ (.slice A1 ns c1)).setCell ⟨w.heap.size, 1, none⟩ (.slice A2 np c2)).setCell ⟨w.heap.size, 2, none⟩ (.slice A3 ni c3)).cell? ⟨w.heap.size, 1, none⟩ = some (.slice A2 np c2) := T3.cell 1 _ rfl
      clear B1 R1 hh1 b0 b1 b2 hB1 hown B2 R2 hb2 hB2
      obtain ⟨w3, hw3⟩ : ∃ w3, ((w2.setCell ⟨w.heap.size, 0, none⟩ (.slice A1 ns c1)).setCell ⟨w.heap.size, 1, none⟩ (.slice A2 np c2)).setCell ⟨w.heap.size, 2, none⟩ (.slice A3 ni c3) = w3 := ⟨_, rfl⟩
      rw [hw3] at T3 R3 hown3 hB3 hs3 t0 t1
      have hbase : w1.heap.size ≤ w3.heap.size := by omega
      have HS1 := Lib.hid hs1
      have HS3 := Lib.hid hs3
      have ownp := hown3.p.alloc (.cells #[.int .i64 ns, .int .i64 c, .bool true] 59)
      have hfr := Reads.freshAs w3 #[.int .i64 ns, .int .i64 c, .bool true] 59 3 1 [.int .i64 ns, .int .i64 c, .bool true] rfl rfl (by decide)
      have q1' : np + 1 ≤ maxLen := by unfold maxLen; omega
      have q2' : (np + 1) * 24 ≤ 140737488355328 := by omega
      have owns := hown3.s.alloc (.cells #[.int .i64 ns, .int .i64 c, .bool true] 59)
      have owni := hown3.i.alloc (.cells #[.int .i64 ns, .int .i64 c, .bool true] 59)
      have T4 := T3.alloc (.cells #[.int .i64 ns, .int .i64 c, .bool true] 59)
      have R4 := R3.alloc (.cells #[.int .i64 ns, .int .i64 c, .bool true] 59)
      have hB4 := keep_alloc hB3 (.cells #[.int .i64 ns, .int .i64 c, .bool true] 59)
      clear hs1 hs3 hown3 T3 R3 hB3
      go_wp2_with (at_builtin; go_loud (refine wpList_appG rfl _ _ _ rfl tySc rfl ownp rfl hfr (by simp [Value.oneCell']) q1' q2' (by have := hbase; simp; omega) ?_; intro v' w5 hown5 hg5; obtain ⟨A5, c5, rfl, -⟩ := Reads.own hown5; have T5 := blk_other T4 ownp (by have := HS1.out; omega) hg5; have R5 := blk_other R4 ownp (by have := HS1.out; omega) hg5; have t50 : w5.cell? ⟨w.heap.size, 0, none⟩ = some (.slice A1 ns c1) := Blk.cell T5 0 _ rfl; have t51 : w5.cell? ⟨w.heap.size, 1, none⟩ = some (.slice A2 np c2) := Blk.cell T5 1 _ rfl; have t52 : w5.cell? ⟨w.heap.size, 2, none⟩ = some (.slice A3 ni c3) := Blk.cell T5 2 _ rfl; have r50 : w5.cell? ⟨w.heap.size + 1, 0, none⟩ = some (.slice none 0 0) := Blk.cell R5 0 _ rfl; have r51 : w5.cell? ⟨w.heap.size + 1, 1, none⟩ = some (.slice none 0 0) := Blk.cell R5 1 _ rfl; have r52 : w5.cell? ⟨w.heap.size + 1, 2, none⟩ = some (.slice none 0 0) := Blk.cell R5 2 _ rfl; have ft5 := Blk.free T5; have fr5 := Blk.free R5))
      clear T4 R4 b0' b1' b2' fb t0 t1 hfr q1' q2'
      have owns5 := own_other owns ownp (by decide) hg5
      have owni5 := own_other owni ownp (by decide) hg5
      have hB5 := hB4.trans (below_own ownp hg5 (base := w.heap.size) (by have := HS1.out; omega) (by have := hB4.size; exact this))
      have hO : LOwn w5 w1.heap.size A1 ns c1 A5 (np + 1) c5 A3 ni c3 S (P ++ [⟨ns, c, true⟩]) I := ⟨owns5, by rw [List.flatMap_append]; exact hown5, owni5⟩
      have hO2 := (hO.far (a := ⟨w.heap.size, 1, none⟩) (by show w.heap.size < _; have := HS1.out; omega) (.slice A5 (np + 1) c5)).rebase (base' := w.heap.size + 2) HS1.out
      have hO3 := ((hO2.far (a := ⟨w.heap.size + 1, 0, none⟩) (by show w.heap.size + 1 < _; omega) (.slice A1 ns c1)).far (a := ⟨w.heap.size + 1, 1, none⟩) (by show w.heap.size + 1 < _; omega) (.slice A5 (np + 1) c5)).far (a := ⟨w.heap.size + 1, 2, none⟩) (by show w.heap.size + 1 < _; omega) (.slice A3 ni c3)
      have HO := Lib.hid (hO3.rebase (base' := w.heap.size) (by omega))
      have HBF := Lib.hid (keep_set3 (hB5.setCell (p := ⟨w.heap.size, 1, none⟩) (by show w.heap.size ≤ w.heap.size; omega) (.slice A5 (np + 1) c5)) (.slice A1 ns c1) (.slice A5 (np + 1) c5) (.slice A3 ni c3))
      have G := (Blk.far (p := ⟨w.heap.size, 1, none⟩) R5 (by show w.heap.size + 1 ≠ w.heap.size; omega) (.slice A5 (np + 1) c5)).set 0 (.slice A1 ns c1) |>.set 1 (.slice A5 (np + 1) c5) |>.set 2 (.slice A3 ni c3)
      have g0 := G.cell 0 _ rfl
      have g1 := G.cell 1 _ rfl
      have g2 := G.cell 2 _ rfl
      clear hO hO2 hO3 owns5 owni5 owns owni ownp hown5 G T5 R5 hB5 hB4 hg5 hw3
      refine bodyPost_ret (v := .tuple #[locV A1 ns c1 A5 (np + 1) c5 A3 ni c3, .int .i64 0]) (by simp [results, Try.results34, go_sem, g0, g1, g2]) rfl ?_
      rw [HR.out]
      have HPL := HP.out
      have HSL := HS.out
      have HIL := HI.out
      subst HPL HSL HIL
      exact ⟨A1, c1, A5, c5, A3, c3, by simp, by simpa using HO.out, HBF.out⟩
    · go_wp2_with fail
      refine (clone_any As ns cs Ap np cp Ai ni ci S P I _ hh1 HHS.out (by omega) HHI.out).mono ?_
      rintro e w2 ⟨A1, c1, A2, c2, A3, c3, rfl, hown, hb2⟩
      have B2 := B1.below hb2
      have R2 := R1.below hb2
      have hs2 : w1.heap.size ≤ w2.heap.size := hb2.size
      have hB2 := keep_below hb2 hB1
      have T3 := B2.set 0 (.slice A1 ns c1) |>.set 1 (.slice A2 np c2) |>.set 2 (.slice A3 ni c3)
      have R3 := ((R2.far (p := ⟨w.heap.size, 0, none⟩) (by show w.heap.size + 1 ≠ w.heap.size; omega) (.slice A1 ns c1)).far (p := ⟨w.heap.size, 1, none⟩) (by show w.heap.size + 1 ≠ w.heap.size; omega) (.slice A2 np c2)).far (p := ⟨w.heap.size, 2, none⟩) (by show w.heap.size + 1 ≠ w.heap.size; omega) (.slice A3 ni c3)
      have hown3 := ((hown.far (a := ⟨w.heap.size, 0, none⟩) (by show w.heap.size < _; omega) (.slice A1 ns c1)).far (a := ⟨w.heap.size, 1, none⟩) (by show w.heap.size < _; omega) (.slice A2 np c2)).far (a := ⟨w.heap.size, 2, none⟩) (by show w.heap.size < _; omega) (.slice A3 ni c3)
      have hB3 : Below w.heap.size w (((w2.setCell ⟨w.heap.size, 0, none⟩ (.slice A1 ns c1)).setCell ⟨w.heap.size, 1, none⟩ (.slice A2 np c2)).setCell ⟨w.heap.size, 2, none⟩ (.slice A3 ni c3)) :=
        ((hB2.setCell (by show w.heap.size ≤ w.heap.size; omega) _).setCell (by show w.heap.size ≤ w.heap.size; omega) _).setCell (by show w.heap.size ≤ w.heap.size; omega) _
      have hs3 : (((w2.setCell ⟨w.heap.size, 0, none⟩ (.slice A1 ns c1)).setCell ⟨w.heap.size, 1, none⟩ (.slice A2 np c2)).setCell ⟨w.heap.size, 2, none⟩ (.slice A3 ni c3)).heap.size = w2.heap.size := by simp
      have b0' := B2.cell 0 _ rfl
      have b1' := B2.cell 1 _ rfl
      have b2' := B2.cell 2 _ rfl
      have fb := B2.free
      have t0 : (((w2.setCell ⟨w.heap.size, 0, none⟩ (.slice A1 ns c1)).setCell ⟨w.heap.size, 1, none⟩ (.slice A2 np c2)).setCell ⟨w.heap.size, 2, none⟩ (.slice A3 ni c3)).cell? ⟨w.heap.size, 0, none⟩ = some (.slice A1 ns c1) := T3.cell 0 _ rfl
      have t1 : (((w2.setCell ⟨w.heap.size, 0, none⟩ (.slice A1 ns c1)).setCell ⟨w.heap.size, 1, none⟩ (.slice A2 np c2)).setCell ⟨w.heap.size, 2, none⟩ (.slice A3 ni c3)).cell? ⟨w.heap.size, 1, none⟩ = some (.slice A2 np c2) := T3.cell 1 _ rfl
      clear B1 R1 hh1 b0 b1 b2 hB1 hown B2 R2 hb2 hB2
      obtain ⟨w3, hw3⟩ : ∃ w3, ((w2.setCell ⟨w.heap.size, 0, none⟩ (.slice A1 ns c1)).setCell ⟨w.heap.size, 1, none⟩ (.slice A2 np c2)).setCell ⟨w.heap.size, 2, none⟩ (.slice A3 ni c3) = w3 := ⟨_, rfl⟩
      rw [hw3] at T3 R3 hown3 hB3 hs3 t0 t1
      have hbase : w1.heap.size ≤ w3.heap.size := by omega
      have HS1 := Lib.hid hs1
      have HS3 := Lib.hid hs3
      have ownp := hown3.p.alloc (.cells #[.int .i64 ns, .int .i64 c, .bool false] 59)
      have hfr := Reads.freshAs w3 #[.int .i64 ns, .int .i64 c, .bool false] 59 3 1 [.int .i64 ns, .int .i64 c, .bool false] rfl rfl (by decide)
      have q1' : np + 1 ≤ maxLen := by unfold maxLen; omega
      have q2' : (np + 1) * 24 ≤ 140737488355328 := by omega
      have owns := hown3.s.alloc (.cells #[.int .i64 ns, .int .i64 c, .bool false] 59)
      have owni := hown3.i.alloc (.cells #[.int .i64 ns, .int .i64 c, .bool false] 59)
      have T4 := T3.alloc (.cells #[.int .i64 ns, .int .i64 c, .bool false] 59)
      have R4 := R3.alloc (.cells #[.int .i64 ns, .int .i64 c, .bool false] 59)
      have hB4 := keep_alloc hB3 (.cells #[.int .i64 ns, .int .i64 c, .bool false] 59)
      clear hs1 hs3 hown3 T3 R3 hB3
      go_wp2_with (at_builtin; go_loud (refine wpList_appG rfl _ _ _ rfl tySc rfl ownp rfl hfr (by simp [Value.oneCell']) q1' q2' (by have := hbase; simp; omega) ?_; intro v' w5 hown5 hg5; obtain ⟨A5, c5, rfl, -⟩ := Reads.own hown5; have T5 := blk_other T4 ownp (by have := HS1.out; omega) hg5; have R5 := blk_other R4 ownp (by have := HS1.out; omega) hg5; have t50 : w5.cell? ⟨w.heap.size, 0, none⟩ = some (.slice A1 ns c1) := Blk.cell T5 0 _ rfl; have t51 : w5.cell? ⟨w.heap.size, 1, none⟩ = some (.slice A2 np c2) := Blk.cell T5 1 _ rfl; have t52 : w5.cell? ⟨w.heap.size, 2, none⟩ = some (.slice A3 ni c3) := Blk.cell T5 2 _ rfl; have r50 : w5.cell? ⟨w.heap.size + 1, 0, none⟩ = some (.slice none 0 0) := Blk.cell R5 0 _ rfl; have r51 : w5.cell? ⟨w.heap.size + 1, 1, none⟩ = some (.slice none 0 0) := Blk.cell R5 1 _ rfl; have r52 : w5.cell? ⟨w.heap.size + 1, 2, none⟩ = some (.slice none 0 0) := Blk.cell R5 2 _ rfl; have ft5 := Blk.free T5; have fr5 := Blk.free R5))
      clear T4 R4 b0' b1' b2' fb t0 t1 hfr q1' q2'
      have owns5 := own_other owns ownp (by decide) hg5
      have owni5 := own_other owni ownp (by decide) hg5
      have hB5 := hB4.trans (below_own ownp hg5 (base := w.heap.size) (by have := HS1.out; omega) (by have := hB4.size; exact this))
      have hO : LOwn w5 w1.heap.size A1 ns c1 A5 (np + 1) c5 A3 ni c3 S (P ++ [⟨ns, c, false⟩]) I := ⟨owns5, by rw [List.flatMap_append]; exact hown5, owni5⟩
      have hO2 := (hO.far (a := ⟨w.heap.size, 1, none⟩) (by show w.heap.size < _; have := HS1.out; omega) (.slice A5 (np + 1) c5)).rebase (base' := w.heap.size + 2) HS1.out
      have hO3 := ((hO2.far (a := ⟨w.heap.size + 1, 0, none⟩) (by show w.heap.size + 1 < _; omega) (.slice A1 ns c1)).far (a := ⟨w.heap.size + 1, 1, none⟩) (by show w.heap.size + 1 < _; omega) (.slice A5 (np + 1) c5)).far (a := ⟨w.heap.size + 1, 2, none⟩) (by show w.heap.size + 1 < _; omega) (.slice A3 ni c3)
      have HO := Lib.hid (hO3.rebase (base' := w.heap.size) (by omega))
      have HBF := Lib.hid (keep_set3 (hB5.setCell (p := ⟨w.heap.size, 1, none⟩) (by show w.heap.size ≤ w.heap.size; omega) (.slice A5 (np + 1) c5)) (.slice A1 ns c1) (.slice A5 (np + 1) c5) (.slice A3 ni c3))
      have G := (Blk.far (p := ⟨w.heap.size, 1, none⟩) R5 (by show w.heap.size + 1 ≠ w.heap.size; omega) (.slice A5 (np + 1) c5)).set 0 (.slice A1 ns c1) |>.set 1 (.slice A5 (np + 1) c5) |>.set 2 (.slice A3 ni c3)
      have g0 := G.cell 0 _ rfl
      have g1 := G.cell 1 _ rfl
      have g2 := G.cell 2 _ rfl
      clear hO hO2 hO3 owns5 owni5 owns owni ownp hown5 G T5 R5 hB5 hB4 hg5 hw3
      refine bodyPost_ret (v := .tuple #[locV A1 ns c1 A5 (np + 1) c5 A3 ni c3, .int .i64 0]) (by simp [results, Try.results34, go_sem, g0, g1, g2]) rfl ?_
      rw [HR.out]
      have HPL := HP.out
      have HSL := HS.out
      have HIL := HI.out
      subst HPL HSL HIL
      exact ⟨A1, c1, A5, c5, A3, c3, by simp, by simpa using HO.out, HBF.out⟩
end Go.Proofs.Ytmcdhpbkhchpeaa

/- The contract of scope.New. -/
import Derived.Test.YtmcdhpbkhchpeaaScope9
namespace Go.Proofs.Ytmcdhpbkhchpeaa
open Go.ChangeShapes Go.WideShapes Go.RowKit Words

def fullL (x : Lc) : Bool := match x.p[x.p.length - 1]? with | some q => decide (q.cap ≤ (liveAt x.s x.p (x.p.length - 1) : Int)) | none => false
def newL (x : Lc) (r : BitVec 64) : Lc × Int × Int × Int :=
  if x.valid = false ∨ r = 0#64 then (Lc.nil, 0, 0, 1) else if x.p.length = 0 then (Lc.nil, 0, 0, 9) else if fullL x = true then (Lc.nil, 0, 0, 10) else if 4096 ≤ x.i.length then (Lc.nil, 0, 0, 18)
  else (⟨x.s ++ [⟨x.i.length + 1, r, true⟩], x.p, x.i ++ [(x.s.length : Int)]⟩, x.s.length, x.i.length + 1, 0)
theorem newL_arg {x : Lc} {r : BitVec 64} (h : x.valid = false ∨ r = 0#64) : newL x r = (Lc.nil, 0, 0, 1) := by unfold newL; rw [if_pos h]
theorem newL_scope {x : Lc} {r : BitVec 64} (h : ¬ (x.valid = false ∨ r = 0#64)) (h1 : x.p.length = 0) : newL x r = (Lc.nil, 0, 0, 9) := by unfold newL; rw [if_neg h, if_pos h1]
theorem newL_cap {x : Lc} {r : BitVec 64} (h : ¬ (x.valid = false ∨ r = 0#64)) (h1 : ¬ x.p.length = 0) (h2 : fullL x = true) : newL x r = (Lc.nil, 0, 0, 10) := by unfold newL; rw [if_neg h, if_neg h1, if_pos h2]
theorem newL_full {x : Lc} {r : BitVec 64} (h : ¬ (x.valid = false ∨ r = 0#64)) (h1 : ¬ x.p.length = 0) (h2 : ¬ fullL x = true) (h3 : 4096 ≤ x.i.length) : newL x r = (Lc.nil, 0, 0, 18) := by unfold newL; rw [if_neg h, if_neg h1, if_neg h2, if_pos h3]
theorem newL_ok {x : Lc} {r : BitVec 64} (h : ¬ (x.valid = false ∨ r = 0#64)) (h1 : ¬ x.p.length = 0) (h2 : ¬ fullL x = true) (h3 : ¬ 4096 ≤ x.i.length) :
    newL x r = (Lc.mk (x.s ++ [⟨x.i.length + 1, r, true⟩]) x.p (x.i ++ [(x.s.length : Int)]), (x.s.length : Int), (x.i.length : Int) + 1, 0) := by unfold newL; rw [if_neg h, if_neg h1, if_neg h2, if_neg h3]
/-- local handles of the call's own, an index, a stamp and an error code come back -/
def RetLN (w : World) (r : Lc × Int × Int × Int) (e : Ending) (w' : World) : Prop :=
  ∃ As cs Ap cp Ai ci, e = .returned (.tuple #[locV As r.1.s.length cs Ap r.1.p.length cp Ai r.1.i.length ci, .int .i64 r.2.1, .int .i64 r.2.2.1, .int .i64 r.2.2.2]) ∧ LOwn w' w.heap.size As r.1.s.length cs Ap r.1.p.length cp Ai r.1.i.length ci r.1.s r.1.p r.1.i ∧ Below w.heap.size w w'
theorem RetLN.fail {w w' : World} {er : Int} {a b c : Value} (hb : Below w.heap.size w w') : RetLN w (Lc.nil, 0, 0, er) (.returned (.tuple #[locV none 0 0 none 0 0 none 0 0, .int .i64 0, .int .i64 0, .int .i64 er])) (((w'.setCell ⟨w.heap.size + 1, 0, none⟩ a).setCell ⟨w.heap.size + 1, 1, none⟩ b).setCell ⟨w.heap.size + 1, 2, none⟩ c) :=
  ⟨none, 0, none, 0, none, 0, rfl, LOwn.nil _ _, keep_set3 hb a b c⟩

theorem RetLN.mk' {w w' : World} {x : Lc} {r : BitVec 64} {S : List Sl} {P : List Sc} {I : List Int} {i t er i' t' : Int} {A1 A2 A3 : Option Addr} {ns c1 np c2 ni c3 : Nat} (hr : newL x r = (⟨S, P, I⟩, i', t', er)) (hs : S.length = ns) (hp : P.length = np) (hi : I.length = ni)
    (h1 : i' = i) (h2 : t' = t) (hO : LOwn w' w.heap.size A1 ns c1 A2 np c2 A3 ni c3 S P I) (hB : Below w.heap.size w w') :
    RetLN w (newL x r) (.returned (.tuple #[locV A1 ns c1 A2 np c2 A3 ni c3, .int .i64 i, .int .i64 t, .int .i64 er])) w' := by
  subst hs hp hi h1 h2
  rw [hr]
  exact ⟨A1, c1, A2, c2, A3, c3, rfl, hO, hB⟩

set_option linter.unusedSimpArgs false in
set_option maxRecDepth 100000 in
set_option maxHeartbeats 20000000 in
theorem new_any0 (As : Option Addr) (ns cs : Nat) (Ap : Option Addr) (cp : Nat) (Ai : Option Addr) (ni ci : Nat) (S : List Sl) (P : List Sc) (I : List Int) (r : BitVec 64) (w : World) (h : LRd w As ns cs Ap 0 cp Ai ni ci S P I)
    (hs : ns ≤ 1000000) (_hp : 0 ≤ 1000000) (hi : ni ≤ 1000000) :
    Calls Try.prog 10 #[locV As ns cs Ap 0 cp Ai ni ci, .int .u64 (U r)] w (RetLN w (newL ⟨S, P, I⟩ r)) := by
  obtain ⟨hS, hP, hI⟩ := h.lens
  have hB : Below w.heap.size w ((w.alloc (.cells #[.slice As ns cs, .slice Ap 0 cp, .slice Ai ni ci] 26)).alloc (.cells #[.slice none 0 0, .slice none 0 0, .slice none 0 0] 26)) := keep_alloc (loc_alloc w _ _ _ _) _
  have B0 := (Blk.new w #[.slice As ns cs, .slice Ap 0 cp, .slice Ai ni ci] 26).alloc (.cells #[.slice none 0 0, .slice none 0 0, .slice none 0 0] 26)
  have R0 := Blk.newAt (w.alloc (.cells #[.slice As ns cs, .slice Ap 0 cp, .slice Ai ni ci] 26)) #[.slice none 0 0, .slice none 0 0, .slice none 0 0] 26 (w.heap.size + 1) (by simp)
  have hh := h.belowU hB
  obtain ⟨vb, hvb⟩ : ∃ vb, validL S P I = vb := ⟨_, rfl⟩
  have HVB := Lib.hid hvb
  have HS := Lib.hid hS
  have HP := Lib.hid hP
  have HI := Lib.hid hI
  have hsz : ((w.alloc (.cells #[.slice As ns cs, .slice Ap 0 cp, .slice Ai ni ci] 26)).alloc (.cells #[.slice none 0 0, .slice none 0 0, .slice none 0 0] 26)).heap.size = w.heap.size + 2 := by simp
  have HSZ := Lib.hid hsz
  have l1 := B0.cell 1 _ rfl
  have hwl : IntKind.i64.wrap (-1) = -1 := by decide
  clear h hS hP hI hvb hsz
  obtain ⟨z, hz⟩ : ∃ z, (r == 0#64) = z := ⟨_, rfl⟩
  have hu : (U r == 0) = z := by rw [← hz]; exact U_eq r 0#64
  have HZ := Lib.hid hz
  have HHS := Lib.hid hs
  have HHI := Lib.hid hi
  clear hz hs hi
  go_enter Try.func10, Try.ntmps10
  go_wp2_with fail
  refine (valid_any As ns cs Ap 0 cp Ai ni ci S P I _ hh).mono ?_
  rw [HVB.out]
  rintro e w1 ⟨rfl, hb1⟩
  have B1 := B0.below hb1
  have R1 := R0.below hb1
  have hh1 := hh.belowU hb1
  have hB1 := keep_below hb1 hB
  have hs1 : w.heap.size + 2 ≤ w1.heap.size := by have := HSZ.out; have := hb1.size; omega
  have b0 := B1.cell 0 _ rfl
  have b1 := B1.cell 1 _ rfl
  have b2 := B1.cell 2 _ rfl
  have fr := R1.free
  have r0 := R1.cell 0 _ rfl
  have r1 := R1.cell 1 _ rfl
  have r2 := R1.cell 2 _ rfl
  have g3 := R1.put3 (.slice none 0 0) (.slice none 0 0) (.slice none 0 0)
  have g0 := g3.cell 0 _ rfl
  have g1 := g3.cell 1 _ rfl
  have g2 := g3.cell 2 _ rfl
  clear B0 R0 hh hB hb1 l1 g3
  by_cases hbad : vb = false ∨ z = true
  · have HR := Lib.hid (newL_arg (x := ⟨S, P, I⟩) (r := r) (by
      rcases hbad with h | h
      · exact Or.inl (by unfold Lc.valid; rw [HVB.out]; exact h)
      · exact Or.inr (by have := HZ.out; rw [h] at this; simpa using this)))
    clear R1 B1 hh1 b0 b1 b2
    rcases (show vb = false ∨ (vb = true ∧ z = true) by rcases hbad with h | h; exact Or.inl h; cases vb; exact Or.inl rfl; exact Or.inr ⟨rfl, h⟩) with rfl | ⟨rfl, rfl⟩
    all_goals
      go_wp2_with fail
      refine bodyPost_ret (v := .tuple #[locV none 0 0 none 0 0 none 0 0, .int .i64 0, .int .i64 0, .int .i64 1]) (by simp [results, Try.results10, go_sem, g0, g1, g2]) rfl ?_
      rw [HR.out]
      exact RetLN.fail hB1
  have hbad2 : vb = true ∧ z = false := by cases vb <;> cases z <;> simp_all
  obtain ⟨rfl, rfl⟩ := hbad2
  have HBAD := Lib.hid (show ¬ ((⟨S, P, I⟩ : Lc).valid = false ∨ r = 0#64) by
    rintro (h | h)
    · unfold Lc.valid at h; rw [HVB.out] at h; cases h
    · have := HZ.out; rw [h] at this; simp at this)
  clear hbad
  have HR := Lib.hid (newL_scope HBAD.out (by dsimp only; exact HP.out))
  clear R1 B1 hh1 b0 b1 b2
  go_wp2_with fail
  refine bodyPost_ret (v := .tuple #[locV none 0 0 none 0 0 none 0 0, .int .i64 0, .int .i64 0, .int .i64 9]) (by simp [results, Try.results10, go_sem, g0, g1, g2]) rfl ?_
  rw [HR.out]
  exact RetLN.fail hB1

set_option linter.unusedSimpArgs false in
set_option maxRecDepth 100000 in
set_option maxHeartbeats 20000000 in
theorem new_any1 (As : Option Addr) (ns cs : Nat) (Ap : Option Addr) (m cp : Nat) (Ai : Option Addr) (ni ci : Nat) (S : List Sl) (P : List Sc) (I : List Int) (r : BitVec 64) (w : World) (h : LRd w As ns cs Ap (m + 1) cp Ai ni ci S P I)
    (hs : ns ≤ 1000000) (hp : m + 1 ≤ 1000000) (hi : ni ≤ 1000000) :
    Calls Try.prog 10 #[locV As ns cs Ap (m + 1) cp Ai ni ci, .int .u64 (U r)] w (RetLN w (newL ⟨S, P, I⟩ r)) := by
  obtain ⟨hS, hP, hI⟩ := h.lens
  have hB : Below w.heap.size w ((w.alloc (.cells #[.slice As ns cs, .slice Ap (m + 1) cp, .slice Ai ni ci] 26)).alloc (.cells #[.slice none 0 0, .slice none 0 0, .slice none 0 0] 26)) := keep_alloc (loc_alloc w _ _ _ _) _
  have B0 := (Blk.new w #[.slice As ns cs, .slice Ap (m + 1) cp, .slice Ai ni ci] 26).alloc (.cells #[.slice none 0 0, .slice none 0 0, .slice none 0 0] 26)
  have R0 := Blk.newAt (w.alloc (.cells #[.slice As ns cs, .slice Ap (m + 1) cp, .slice Ai ni ci] 26)) #[.slice none 0 0, .slice none 0 0, .slice none 0 0] 26 (w.heap.size + 1) (by simp)
  have hh := h.belowU hB
  obtain ⟨vb, hvb⟩ : ∃ vb, validL S P I = vb := ⟨_, rfl⟩
  have HVB := Lib.hid hvb
  have HS := Lib.hid hS
  have HP := Lib.hid hP
  have HI := Lib.hid hI
  have hsz : ((w.alloc (.cells #[.slice As ns cs, .slice Ap (m + 1) cp, .slice Ai ni ci] 26)).alloc (.cells #[.slice none 0 0, .slice none 0 0, .slice none 0 0] 26)).heap.size = w.heap.size + 2 := by simp
  have HSZ := Lib.hid hsz
  have l1 := B0.cell 1 _ rfl
  have hwl : IntKind.i64.wrap (((m + 1 : Nat) : Int) - 1) = (m : Int) := by rw [show ((m + 1 : Nat) : Int) - 1 = (m : Int) by omega]; exact IntWalk.i64_in _ (by omega)
  have hwl2 : IntKind.i64.wrap ((m : Int) + 1 - 1) = (m : Int) := by rw [show (m : Int) + 1 - 1 = (m : Int) by omega]; exact IntWalk.i64_in _ (by omega)
  clear h hS hP hI hvb hsz
  obtain ⟨z, hz⟩ : ∃ z, (r == 0#64) = z := ⟨_, rfl⟩
  have hu : (U r == 0) = z := by rw [← hz]; exact U_eq r 0#64
  have HZ := Lib.hid hz
  have HHS := Lib.hid hs
  have HHI := Lib.hid hi
  clear hz hs hi
  go_enter Try.func10, Try.ntmps10
  go_wp2_with fail
  refine (valid_any As ns cs Ap (m + 1) cp Ai ni ci S P I _ hh).mono ?_
  rw [HVB.out]
  rintro e w1 ⟨rfl, hb1⟩
  have B1 := B0.below hb1
  have R1 := R0.below hb1
  have hh1 := hh.belowU hb1
  have hB1 := keep_below hb1 hB
  have hs1 : w.heap.size + 2 ≤ w1.heap.size := by have := HSZ.out; have := hb1.size; omega
  have b0 := B1.cell 0 _ rfl
  have b1 := B1.cell 1 _ rfl
  have b2 := B1.cell 2 _ rfl
  have fr := R1.free
  have r0 := R1.cell 0 _ rfl
  have r1 := R1.cell 1 _ rfl
  have r2 := R1.cell 2 _ rfl
  have g3 := R1.put3 (.slice none 0 0) (.slice none 0 0) (.slice none 0 0)
  have g0 := g3.cell 0 _ rfl
  have g1 := g3.cell 1 _ rfl
  have g2 := g3.cell 2 _ rfl
  clear B0 R0 hh hB hb1 l1 g3
  by_cases hbad : vb = false ∨ z = true
  · have HR := Lib.hid (newL_arg (x := ⟨S, P, I⟩) (r := r) (by
      rcases hbad with h | h
      · exact Or.inl (by unfold Lc.valid; rw [HVB.out]; exact h)
      · exact Or.inr (by have := HZ.out; rw [h] at this; simpa using this)))
    clear R1 B1 hh1 b0 b1 b2
    rcases (show vb = false ∨ (vb = true ∧ z = true) by rcases hbad with h | h; exact Or.inl h; cases vb; exact Or.inl rfl; exact Or.inr ⟨rfl, h⟩) with rfl | ⟨rfl, rfl⟩
    all_goals
      go_wp2_with fail
      refine bodyPost_ret (v := .tuple #[locV none 0 0 none 0 0 none 0 0, .int .i64 0, .int .i64 0, .int .i64 1]) (by simp [results, Try.results10, go_sem, g0, g1, g2]) rfl ?_
      rw [HR.out]
      exact RetLN.fail hB1
  have hbad2 : vb = true ∧ z = false := by cases vb <;> cases z <;> simp_all
  obtain ⟨rfl, rfl⟩ := hbad2
  have HBAD := Lib.hid (show ¬ ((⟨S, P, I⟩ : Lc).valid = false ∨ r = 0#64) by
    rintro (h | h)
    · unfold Lc.valid at h; rw [HVB.out] at h; cases h
    · have := HZ.out; rw [h] at this; simp at this)
  clear hbad
  have HNP := Lib.hid (show ¬ (⟨S, P, I⟩ : Lc).p.length = 0 by dsimp only; rw [HP.out]; omega)
  have hm0 : (0 : Int) ≤ (m : Int) := by omega
  have hm1 : (m : Int) < ((m + 1 : Nat) : Int) := by omega
  have hml : decide ((m : Int) < 0) = false := decide_eq_false (by omega)
  obtain ⟨b, off, q, rfl, hbb, hq, hc⟩ := hh1.p.elem scCells_len (by omega) (show m < m + 1 by omega)
  have d0 := hc 0 _ rfl
  have d1 := hc 1 _ rfl
  rw [Nat.add_zero] at d0
  have HNB := Lib.hid (show nestedB S P = true by
    have := HVB.out
    unfold validL at this
    simp only [Bool.and_eq_true] at this
    exact this.2.1)
  obtain ⟨lc, hlc⟩ : ∃ lc, liveAt S P m = lc := ⟨_, rfl⟩
  have hfl : fullL ⟨S, P, I⟩ = decide (q.cap ≤ (lc : Int)) := by
    unfold fullL; dsimp only; rw [HP.out, Nat.add_sub_cancel, hq]; dsimp only; rw [hlc]
  have HFL := Lib.hid hfl
  have HQ := Lib.hid hq
  have HLC := Lib.hid hlc
  obtain ⟨fr', ca, ba⟩ := q
  dsimp only [scCells] at d0 d1 HFL
  clear hc hq hfl hlc
  go_wp2_with fail
  have Lb0 := Lag.cell b0
  have Lb1 := Lag.cell b1
  have Lb2 := Lag.cell b2
  have Ld1 := Lag.cell d1
  refine wp_region_lag (by kernel_rfl) (by kernel_rfl) ?_
  repeat (go_big_quiet_step ((go_at_call 35; exact Calls.lag (live_val As ns cs _ (m + 1) cp Ai ni ci S P I m _ _ lc (hh1.belowU (Lag.h _)) HQ.out HNB.out HLC.out))))
  refine wpQuiet_nil ?_
  rintro w2 ⟨uL, huL⟩
  have hb2 := uL.h
  rw [← huL] at hb2
  clear huL uL
  clear Lb0 Lb1 Lb2 Ld1 b0 b1 b2 r0 r1 r2 g0 g1 g2 fr d0 d1
  have B2 := B1.below hb2
  have R2 := R1.below hb2
  have hh2 := hh1.belowU hb2
  have hs2 : w.heap.size + 2 ≤ w2.heap.size := by have := hb2.size; omega
  replace hB1 := keep_below hb2 hB1
  have b0 := B2.cell 0 _ rfl
  have b1 := B2.cell 1 _ rfl
  have b2 := B2.cell 2 _ rfl
  have fr := R2.free
  have r0 := R2.cell 0 _ rfl
  have r1 := R2.cell 1 _ rfl
  have r2 := R2.cell 2 _ rfl
  have g3 := R2.put3 (.slice none 0 0) (.slice none 0 0) (.slice none 0 0)
  have g0 := g3.cell 0 _ rfl
  have g1 := g3.cell 1 _ rfl
  have g2 := g3.cell 2 _ rfl
  clear B1 R1 hh1 hs1 hb2 g3
  by_cases hfull : ca ≤ (lc : Int)
  · have HR := Lib.hid (newL_cap HBAD.out HNP.out (by rw [HFL.out, decide_eq_true hfull]))
    have e1 : decide (ca ≤ (lc : Int)) = true := decide_eq_true hfull
    clear B2 R2 hh2 b0 b1 b2
    go_wp2_with fail
    refine bodyPost_ret (v := .tuple #[locV none 0 0 none 0 0 none 0 0, .int .i64 0, .int .i64 0, .int .i64 10]) (by simp [results, Try.results10, go_sem, g0, g1, g2]) rfl ?_
    rw [HR.out]
    exact RetLN.fail hB1
  have HNF := Lib.hid (show ¬ fullL ⟨S, P, I⟩ = true by rw [HFL.out, decide_eq_false hfull]; decide)
  have e1 : decide (ca ≤ (lc : Int)) = false := decide_eq_false hfull
  by_cases hni : 4096 ≤ ni
  · have HR := Lib.hid (newL_full HBAD.out HNP.out HNF.out (by dsimp only; rw [HI.out]; exact hni))
    have e2 : decide ((4096 : Int) ≤ (ni : Int)) = true := by simp; omega
    have e2n : decide (4096 ≤ ni) = true := decide_eq_true hni
    clear B2 R2 hh2 b0 b1
    go_wp2_with fail
    refine bodyPost_ret (v := .tuple #[locV none 0 0 none 0 0 none 0 0, .int .i64 0, .int .i64 0, .int .i64 18]) (by simp [results, Try.results10, go_sem, g0, g1, g2]) rfl ?_
    rw [HR.out]
    exact RetLN.fail hB1
  have HR := Lib.hid (newL_ok HBAD.out HNP.out HNF.out (by dsimp only; rw [HI.out]; exact hni))
  have e2 : decide ((4096 : Int) ≤ (ni : Int)) = false := by simp; omega
  have e2n : decide (4096 ≤ ni) = false := decide_eq_false hni
  clear g0 g1 g2
  go_wp2_with fail
  refine (clone_any As ns cs _ (m + 1) cp Ai ni ci S P I _ hh2 HHS.out (by omega) HHI.out).mono ?_
  rintro e w3 ⟨A1, c1, A2, c2, A3, c3, rfl, hown, hb3⟩
  have R3 := R2.below hb3
  have hs3 : w2.heap.size ≤ w3.heap.size := hb3.size
  replace hB1 := keep_below hb3 hB1
  clear fr r0 r1 r2 b0 b1 b2
  have fr := R3.free
  have r0 := R3.cell 0 _ rfl
  have r1 := R3.cell 1 _ rfl
  have r2 := R3.cell 2 _ rfl
  have T4 := R3.put3 (.slice A1 ns c1) (.slice A2 (m + 1) c2) (.slice A3 ni c3)
  have own4 := ((hown.far (a := ⟨w.heap.size + 1, 0, none⟩) (by show w.heap.size + 1 < _; omega) (.slice A1 ns c1)).far (a := ⟨w.heap.size + 1, 1, none⟩) (by show w.heap.size + 1 < _; omega) (.slice A2 (m + 1) c2)).far (a := ⟨w.heap.size + 1, 2, none⟩) (by show w.heap.size + 1 < _; omega) (.slice A3 ni c3)
  have hB4 := keep_set3 hB1 (.slice A1 ns c1) (.slice A2 (m + 1) c2) (.slice A3 ni c3)
  have hs4 : (((w3.setCell ⟨w.heap.size + 1, 0, none⟩ (.slice A1 ns c1)).setCell ⟨w.heap.size + 1, 1, none⟩ (.slice A2 (m + 1) c2)).setCell ⟨w.heap.size + 1, 2, none⟩ (.slice A3 ni c3)).heap.size = w3.heap.size := by simp
  obtain ⟨w4, hw4⟩ : ∃ w4, ((w3.setCell ⟨w.heap.size + 1, 0, none⟩ (.slice A1 ns c1)).setCell ⟨w.heap.size + 1, 1, none⟩ (.slice A2 (m + 1) c2)).setCell ⟨w.heap.size + 1, 2, none⟩ (.slice A3 ni c3) = w4 := ⟨_, rfl⟩
  rw [hw4] at T4 own4 hB4 hs4
  clear R2 hh2 hown hb3 R3 B2 hB1
  have HS2 := Lib.hid hs2
  have HS3 := Lib.hid (show w2.heap.size ≤ w4.heap.size by omega)
  have t0 : w4.cell? ⟨w.heap.size + 1, 0, none⟩ = some (.slice A1 ns c1) := T4.cell 0 _ rfl
  have t1 : w4.cell? ⟨w.heap.size + 1, 1, none⟩ = some (.slice A2 (m + 1) c2) := T4.cell 1 _ rfl
  have t2 : w4.cell? ⟨w.heap.size + 1, 2, none⟩ = some (.slice A3 ni c3) := T4.cell 2 _ rfl
  clear hs2 hs3 hs4
  go_wp2_with fail
  clear fr r0 r1 r2 hw4
  have hws : IntKind.i64.wrap ((ni : Int) + 1) = (ni : Int) + 1 := IntWalk.i64_in _ (by have := HHI.out; omega)
  go_quiet (fail)
  have T5 := T4.drewN nq
  have own5 := own4.below (below_drewN (Below.refl _ _) nq)
  have hB5 := below_drewN hB4 nq
  have HS5 := Lib.hid (show w2.heap.size ≤ (w4.drewN nq).heap.size from HS3.out)
  obtain ⟨w5, hw5⟩ : ∃ w5, w4.drewN nq = w5 := ⟨_, rfl⟩
  rw [hw5] at T5 own5 hB5 HS5 ⊢
  clear T4 own4 hB4 HS3 t0 t1 t2 hw5
  have t0 : w5.cell? ⟨w.heap.size + 1, 0, none⟩ = some (.slice A1 ns c1) := T5.cell 0 _ rfl
  have t1 : w5.cell? ⟨w.heap.size + 1, 1, none⟩ = some (.slice A2 (m + 1) c2) := T5.cell 1 _ rfl
  have t2 : w5.cell? ⟨w.heap.size + 1, 2, none⟩ = some (.slice A3 ni c3) := T5.cell 2 _ rfl
  have owns := own5.s.alloc (.cells #[.int .i64 ((ni : Int) + 1), .int .u64 (U r), .bool true] 62)
  have ownp := own5.p.alloc (.cells #[.int .i64 ((ni : Int) + 1), .int .u64 (U r), .bool true] 62)
  have owni := own5.i.alloc (.cells #[.int .i64 ((ni : Int) + 1), .int .u64 (U r), .bool true] 62)
  have T6 := T5.alloc (.cells #[.int .i64 ((ni : Int) + 1), .int .u64 (U r), .bool true] 62)
  have hB6 := keep_alloc hB5 (.cells #[.int .i64 ((ni : Int) + 1), .int .u64 (U r), .bool true] 62)
  have hfr := Reads.freshAs w5 #[.int .i64 ((ni : Int) + 1), .int .u64 (U r), .bool true] 62 3 1 [.int .i64 ((ni : Int) + 1), .int .u64 (U r), .bool true] rfl rfl (by decide)
  have q1' : ns + 1 ≤ maxLen := by have := HHS.out; unfold maxLen; omega
  have q2' : (ns + 1) * 24 ≤ 140737488355328 := by have := HHS.out; omega
  have hbase : w2.heap.size ≤ w5.heap.size := HS5.out
  clear own5 T5 hB5
  have q3' : ni + 1 ≤ maxLen := by have := HHI.out; unfold maxLen; omega
  have q4' : (ni + 1) * 8 ≤ 140737488355328 := by have := HHI.out; omega
  go_wp2_with (first
    | (at_builtin; refine wpList_appG rfl _ _ _ rfl tySl rfl owns rfl hfr (by simp [Value.oneCell']) q1' q2' (by have := hbase; simp; omega) ?_; intro v' w7 own7 hg7; obtain ⟨A7, c7, rfl, -⟩ := Reads.own own7
       have hlt1 : w.heap.size + 1 < w2.heap.size := HS2.out
       have T7 := blk_other T6 owns hlt1 hg7
       have t70 : w7.cell? ⟨w.heap.size + 1, 0, none⟩ = some (.slice A1 ns c1) := Blk.cell T7 0 _ rfl
       have t71 : w7.cell? ⟨w.heap.size + 1, 1, none⟩ = some (.slice A2 (m + 1) c2) := Blk.cell T7 1 _ rfl
       have t72 : w7.cell? ⟨w.heap.size + 1, 2, none⟩ = some (.slice A3 ni c3) := Blk.cell T7 2 _ rfl
       have ft7 := Blk.free T7
       have owni7 := own_other owni owns (by decide) hg7
       have ownp7 := own_other ownp owns (by decide) hg7
       have hB7 := hB6.trans (below_own owns hg7 (base := w.heap.size) (by omega) hB6.size)
       have hsz7 : w2.heap.size ≤ w7.heap.size := Nat.le_trans hbase (Nat.le_trans (by simp) hg7.size)
       have owns8 := (ownsRow_setCell_below own7 (a := ⟨w.heap.size + 1, 0, none⟩) hlt1 (.slice A7 (ns + 1) c7)).alloc (.cells #[.int .i64 ns] 3)
       have ownp8 := (ownsRow_setCell_below ownp7 (a := ⟨w.heap.size + 1, 0, none⟩) hlt1 (.slice A7 (ns + 1) c7)).alloc (.cells #[.int .i64 ns] 3)
       have owni8 := (ownsRow_setCell_below owni7 (a := ⟨w.heap.size + 1, 0, none⟩) hlt1 (.slice A7 (ns + 1) c7)).alloc (.cells #[.int .i64 ns] 3)
       have T8 := (Blk.put0 T7 (.slice A7 (ns + 1) c7)).alloc (.cells #[.int .i64 ns] 3)
       have hB8 := keep_alloc (hB7.setCell (p := ⟨w.heap.size + 1, 0, none⟩) (by show w.heap.size ≤ w.heap.size + 1; omega) (.slice A7 (ns + 1) c7)) (.cells #[.int .i64 ns] 3)
       have hfr2 := Reads.freshAt (w7.setCell ⟨w.heap.size + 1, 0, none⟩ (.slice A7 (ns + 1) c7)) #[.int .i64 ns] 3 1 1 [.int .i64 ns] w7.heap.size (by simp) rfl rfl (by decide)
       clear T7 owni7 ownp7 hB7 own7)
    | (at_builtin; go_loud (refine wpList_appG rfl _ _ _ rfl tyIn rfl owni8 rfl hfr2 (by simp [Value.oneCell']) q3' q4' (by have := hsz7; simp; omega) ?_); intro v' w9 own9 hg9; obtain ⟨A9, c9, rfl, -⟩ := Reads.own own9
       have T9 := blk_other T8 owni8 hlt1 hg9
       have t90 : w9.cell? ⟨w.heap.size + 1, 0, none⟩ = some (.slice A7 (ns + 1) c7) := Blk.cell T9 0 _ rfl
       have t91 : w9.cell? ⟨w.heap.size + 1, 1, none⟩ = some (.slice A2 (m + 1) c2) := Blk.cell T9 1 _ rfl
       have t92 : w9.cell? ⟨w.heap.size + 1, 2, none⟩ = some (.slice A3 ni c3) := Blk.cell T9 2 _ rfl
       have ft9 := Blk.free T9
       have owns9 := own_other owns8 owni8 (by decide) hg9
       have ownp9 := own_other ownp8 owni8 (by decide) hg9
       have hB9 := hB8.trans (below_own owni8 hg9 (base := w.heap.size) (by omega) hB8.size)))
  have hlt := HS2.out
  have HO := Lib.hid ((((((⟨by rw [List.flatMap_append]; exact owns9, ownp9, by rw [List.flatMap_append]; exact own9⟩ : LOwn w9 w2.heap.size A7 (ns + 1) c7 A2 (m + 1) c2 A9 (ni + 1) c9 (S ++ [⟨(ni : Int) + 1, r, true⟩]) P (I ++ [(ns : Int)])).far (a := ⟨w.heap.size + 1, 2, none⟩) (by show w.heap.size + 1 < _; omega) (.slice A9 (ni + 1) c9)).far (a := ⟨w.heap.size + 1, 0, none⟩) (by show w.heap.size + 1 < _; omega) (.slice A7 (ns + 1) c7)).far (a := ⟨w.heap.size + 1, 1, none⟩) (by show w.heap.size + 1 < _; omega) (.slice A2 (m + 1) c2)).far (a := ⟨w.heap.size + 1, 2, none⟩) (by show w.heap.size + 1 < _; omega) (.slice A9 (ni + 1) c9)).rebase (base' := w.heap.size) (by omega))
  have HBF := Lib.hid (keep_set3 (hB9.setCell (p := ⟨w.heap.size + 1, 2, none⟩) (by show w.heap.size ≤ w.heap.size + 1; omega) (.slice A9 (ni + 1) c9)) (.slice A7 (ns + 1) c7) (.slice A2 (m + 1) c2) (.slice A9 (ni + 1) c9))
  have G := (Blk.put2 T9 (.slice A9 (ni + 1) c9)).put3 (.slice A7 (ns + 1) c7) (.slice A2 (m + 1) c2) (.slice A9 (ni + 1) c9)
  have g0 := G.cell 0 _ rfl
  have g1 := G.cell 1 _ rfl
  have g2 := G.cell 2 _ rfl
  clear G T9 T8 T6 owns ownp owni owns8 ownp8 owni8 owns9 ownp9 own9 hB9 hB8 hB6 hg9 hg7
  refine bodyPost_ret (v := .tuple #[locV A7 (ns + 1) c7 A2 (m + 1) c2 A9 (ni + 1) c9, .int .i64 ns, .int .i64 ((ni : Int) + 1), .int .i64 0]) (by simp [results, Try.results10, go_sem, g0, g1, g2]) rfl ?_
  have HRN := HR.out
  rw [HI.out, HS.out] at HRN
  exact RetLN.mk' HRN (by rw [List.length_append, HS.out]; rfl) HP.out (by rw [List.length_append, HI.out]; rfl) rfl rfl HO.out HBF.out

theorem new_any (As : Option Addr) (ns cs : Nat) (Ap : Option Addr) (np cp : Nat) (Ai : Option Addr) (ni ci : Nat) (S : List Sl) (P : List Sc) (I : List Int) (r : BitVec 64) (w : World) (h : LRd w As ns cs Ap np cp Ai ni ci S P I)
    (hs : ns ≤ 1000000) (hp : np ≤ 1000000) (hi : ni ≤ 1000000) :
    Calls Try.prog 10 #[locV As ns cs Ap np cp Ai ni ci, .int .u64 (U r)] w (RetLN w (newL ⟨S, P, I⟩ r)) := by
  cases np with
  | zero => exact new_any0 As ns cs Ap cp Ai ni ci S P I r w h hs hp hi
  | succ m => exact new_any1 As ns cs Ap m cp Ai ni ci S P I r w h hs hp hi
end Go.Proofs.Ytmcdhpbkhchpeaa

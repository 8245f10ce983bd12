/- How made programs are made: heads. PRINTED BY A PROGRAM (mk_made6.py). -/
import Derived.Test.YtnnchinpmnpfiaaDoorKJ
import Derived.Test.YtnnchinpmnpfiaaDoorKA
namespace Go.Proofs.YtnnchinpmnpfiaaDoor
open Go.ChangeShapes Go.WideShapes Go.RowKit Words

theorem tyRFns : SlTy Tryd.prog 23 44 4 64 := SlTy.mk' (z := .agg #[.int .i64 0, .slice none 0 0, .int .i64 0, .slice none 0 0]) Tryd.underlying23 (by kernel_rfl) rfl (by omega)
/-- a function without instructions, of which the locals lie from block B on and not in 'row' -/
structure HeadAt (w : World) (B : Nat) (row : Option Nat) (x : FC) (f : Fn) : Prop where
  p : x.p = f.p
  r : x.r = f.r
  locs : Reads w w.heap.size 1 x.A x.n x.c (f.locs.flatMap intCells)
  far : ∀ b off, 0 < x.n → x.A = some ⟨b, off, none⟩ → B ≤ b ∧ some b ≠ row
  ok : HeadOk f.p f.locs f.r
  B0 : x.B = none
  m0 : x.m = 0
  e0 : x.e = 0
  i0 : f.ins = []
def HeadRow (w : World) (B : Nat) (row : Option Nat) (xs : List FC) (fs : List Fn) : Prop := xs.length = fs.length ∧ ∀ (i : Nat) x f, xs[i]? = some x → fs[i]? = some f → HeadAt w B row x f
theorem TapeAt.setN' {w : World} {g a : Nat} (h : TapeAt w g a) {p : Addr} (hp : g < p.block) (u : Value) : TapeAt (w.setCell p u) g a := by
  obtain ⟨A, n, c, l, hB, hr⟩ := h
  exact ⟨A, n, c, l, hB.far (by omega) u, hr.setCell (by omega) u⟩
theorem tape_row {w w' : World} {g a : Nat} {row : Option Nat} (h : TapeAt w g a) (hg : w.grownBy w' row) (hr : ∀ {b}, row = some b → g < b) : TapeAt w' g a := by
  obtain ⟨A, n, c, l, hB, hR⟩ := h
  have hl := hB.lt
  refine ⟨A, n, c, l, (hg.block g hl (fun e => by have := hr e.symm; omega)).trans hB, hR.keep fun b o hb => World.cell?_of_block (a := ⟨b, o, none⟩) (hg.block b (by omega) (fun e => by have := hr e.symm; omega))⟩
def HeadsOk (fs : List Fn) : Prop := ∃ f, fs[0]? = some f ∧ f.p = 0 ∧ f.r = 1
section
variable {w w' : World} {B : Nat} {row row' : Option Nat} {x : FC} {f : Fn} {xs : List FC} {fs : List Fn} {X : Nat → Prop}
theorem HeadAt.onlyX (h : HeadAt w B row x f) (ho : OnlyX X w w') (hx : ∀ i, B ≤ i → i < w.heap.size → ¬ X i) : HeadAt w' B row x f :=
  ⟨h.p, h.r, h.locs.onlyX2 (fun b off hn e hl => hx b (h.far b off hn e).1 hl) ho, h.far, h.ok, h.B0, h.m0, h.e0, h.i0⟩
theorem HeadAt.grown (h : HeadAt w B row x f) (hg : w.grownBy w' row) (hr : row' = row ∨ row' = some w.heap.size) : HeadAt w' B row' x f := by
  refine ⟨h.p, h.r, h.locs.row hg fun b off hn e => (h.far b off hn e).2, fun b off hn e => ?_, h.ok, h.B0, h.m0, h.e0, h.i0⟩
  obtain ⟨h1, h2⟩ := h.far b off hn e
  obtain ⟨b', off', e', hlt, -⟩ := h.locs.at_ hn
  rw [e] at e'
  cases e'
  refine ⟨h1, ?_⟩
  rcases hr with rfl | rfl
  · exact h2
  · intro e2; cases e2; omega
theorem HeadRow.nil : HeadRow w B row [] [] := ⟨rfl, fun i x f h => by simp at h⟩
theorem HeadRow.onlyX (h : HeadRow w B row xs fs) (ho : OnlyX X w w') (hx : ∀ i, B ≤ i → i < w.heap.size → ¬ X i) : HeadRow w' B row xs fs := ⟨h.1, fun i x f h1 h2 => (h.2 i x f h1 h2).onlyX ho hx⟩
theorem HeadRow.grown (h : HeadRow w B row xs fs) (hg : w.grownBy w' row) (hr : row' = row ∨ row' = some w.heap.size) : HeadRow w' B row' xs fs := ⟨h.1, fun i x f h1 h2 => (h.2 i x f h1 h2).grown hg hr⟩
theorem HeadRow.snoc (h : HeadRow w B row xs fs) (hx : HeadAt w B row x f) : HeadRow w B row (xs ++ [x]) (fs ++ [f]) := by
  refine ⟨by simp [h.1], fun i y g h1 h2 => ?_⟩
  by_cases hi : i < xs.length
  · rw [List.getElem?_append_left hi] at h1
    rw [List.getElem?_append_left (by rw [← h.1]; exact hi)] at h2
    exact h.2 i y g h1 h2
  · rw [List.getElem?_append_right (by omega)] at h1
    rw [List.getElem?_append_right (by rw [← h.1]; omega), ← h.1] at h2
    have h3 := (List.getElem?_eq_some_iff.1 h1).1
    have h0 : i - xs.length = 0 := by simp at h3; omega
    rw [h0] at h1 h2
    cases h1; cases h2
    exact hx
theorem HeadsOk.snoc (h : 0 < fs.length → HeadsOk fs) (h0 : fs.length = 0 → f.p = 0 ∧ f.r = 1) : HeadsOk (fs ++ [f]) := by
  cases fs with
  | nil => exact ⟨f, rfl, h0 rfl⟩
  | cons a l =>
    obtain ⟨b, hb, h1⟩ := h (by simp)
    exact ⟨b, by simpa using hb, h1⟩
end
/-- functions without instructions come back, in memory of the call's own -/
def RetHeads (w : World) (g t : Nat) (e : Ending) (w' : World) : Prop :=
  ∃ (F : Option Addr) (nf cf : Nat) (fcs : List FC) (fns : List Fn) (t' : Nat), e = .returned (.slice F nf cf) ∧ w'.ownsRow w.heap.size 44 4 (.slice F nf cf) nf (fcs.flatMap fcCells) ∧ HeadRow w' w.heap.size (Value.ownBlock (.slice F nf cf)) fcs fns ∧ fcs.length = nf ∧
    HeadsOk fns ∧ 1 ≤ nf ∧ nf ≤ 3 ∧ t' ≤ t + 40 ∧ TapeAt w' g t' ∧ OnlyX (fun i => i = g) w w'
theorem set23 {xs : List Int} (hl : 4 ≤ xs.length) (hx : ∀ q ∈ xs, q = 1 ∨ q = 2) : (∀ q ∈ (xs.set 3 1).set 2 2, q = 1 ∨ q = 2) ∧ ((xs.set 3 1).set 2 2)[3]? = some 1 ∧ ((xs.set 3 1).set 2 2)[2]? = some 2 := by
  refine ⟨fun q hq => ?_, ?_, ?_⟩
  · rcases List.mem_or_eq_of_mem_set hq with h | h
    · rcases List.mem_or_eq_of_mem_set h with h | h
      · exact hx q h
      · exact Or.inl h
    · exact Or.inr h
  · rw [List.getElem?_set_ne (by omega), List.getElem?_set_self (by omega)]
  · rw [List.getElem?_set_self (by rw [List.length_set]; omega)]
theorem snoc_len {α β : Type} {l : List α} {m : List β} {a : α} {b : β} (h : (l ++ [a]).length = (m ++ [b]).length) : l.length = m.length := by simpa using h
theorem intCells_set (xs : List Int) (k : Nat) (v : Int) : (xs.flatMap intCells).set k (.int .i64 v) = (xs.set k v).flatMap intCells := by
  induction xs generalizing k with
  | nil => rfl
  | cons a l ih =>
    cases k with
    | zero => rfl
    | succ k =>
      show .int .i64 a :: (l.flatMap intCells).set k _ = .int .i64 a :: (l.set k v).flatMap intCells
      rw [ih]
set_option linter.unusedSimpArgs false in
set_option linter.unusedVariables false in
set_option maxRecDepth 100000 in
set_option maxHeartbeats 20000000 in
theorem heads_any (g t : Nat) (w : World) (hT : TapeAt w g t) (ht : t ≤ 700000) : Calls Tryd.prog 55 #[.pointer (some ⟨g, 0, none⟩)] w (RetHeads w g t) := by
  have hgl := hT.lt
  have HNX := Lib.hid (show ∀ wq tq (k : Int), TapeAt wq g tq → tq ≤ 900000 → k ≤ 1000 → Calls Tryd.prog 39 #[.pointer (some ⟨g, 0, none⟩), .int .i64 k] wq (RetNext wq g tq k) from fun wq tq k hq h9 hk => next_any g tq k wq hq (by omega) (by omega))
  have HG1 := Lib.hid (show ∀ (a b : World), a.grownBy b (some g) → OnlyX (fun i => i = g) a b from fun a b h => (OnlyX.grown h).mono (fun i _ e => by injection e with e; exact e.symm))
  go_enter Tryd.func55, Tryd.ntmps55
  go_wp2_with fail
  refine (HNX.out _ _ 3 hT (by omega) (by omega)).mono ?_
  rintro e w1 ⟨r1, rfl, h10, h11, t1, ht1, hT1, hg1⟩
  have hX1 := HG1.out _ _ hg1
  have h12 : r1 < 3 := by omega
  clear h11 hg1 hT
  go_wp2_with fail
  go_loopw [3, 4] (fun o x wq => ∃ (k : Nat) (z : Int) (A : Option Addr) (e : Nat) (fcs : List FC) (fns : List Fn) (tq : Nat), o = .slice A k e ∧ x = .int .i64 z ∧ 0 ≤ z ∧ z + k = 1 + r1 ∧ wq.ownsRow w.heap.size 44 4 (.slice A k e) k (fcs.flatMap fcCells) ∧ HeadRow wq w.heap.size (Value.ownBlock (.slice A k e)) fcs fns ∧ fcs.length = k ∧ (0 < fns.length → HeadsOk fns) ∧ tq ≤ t + 1 + 12 * k ∧ TapeAt wq g tq ∧ OnlyX (fun i => i = g) w wq) (fun _ x _ => (intOf x).toNat)
  case atStart => exact ⟨0, _, none, 0, [], [], t1, rfl, rfl, by omega, by omega, World.ownsRow_nil _ _ _ _, HeadRow.nil, rfl, fun h => absurd h (by simp), by omega, hT1, hX1⟩
  case round =>
    obtain ⟨k, z, A, e, fcs, fns, tq, rfl, rfl, hz0, hzk, hown, hrow, hfl, hok, htq, hT2, hX⟩ := hrel
    have HROW := Lib.hid hrow
    have HFL := Lib.hid hfl
    have HOK := Lib.hid hok
    have HZK := Lib.hid hzk
    have hk3 : k ≤ 3 := by omega
    have hz3 : z ≤ 3 := by omega
    clear hrow hfl hok hT1 hX1
    by_cases hz : 0 < z
    · have hd : decide ((0 : Int) < z) = true := decide_eq_true hz
      have hk2 : k ≤ 2 := by omega
      have hsz : w.heap.size ≤ wr.heap.size := hX.size
      clear hzk
      go_wp2_with fail
      refine (HNX.out _ _ 2 hT2 (by omega) (by omega)).mono ?_
      rintro e w3 ⟨r3, rfl, h30, h31, t3, ht3, hT3, hg3⟩
      have h32 : r3 < 2 := by omega
      have hX3 := hX.trans (HG1.out _ _ hg3)
      have hown3 := own_onlyX hown (HG1.out _ _ hg3) (fun i hi e => by have := (hown.lt i hi).1; omega)
      have hrow3 := HROW.out.onlyX (HG1.out _ _ hg3) (fun i hi _ e => by omega)
      have w13 : IntKind.i64.wrap (1 + r3) = 1 + r3 := IntWalk.i64_in _ (by omega)
      clear h31 hg3 hT2 hown HROW hX
      go_wp2_with fail
      have hal : Below w3.heap.size w3 (w3.alloc (.cells #[.int .i64 0, .slice none 0 0, .int .i64 (1 + r3), .slice none 0 0] 44)) := keep_alloc (Below.refl _ _) _
      have O3 := Blk.new w3 #[.int .i64 0, .slice none 0 0, .int .i64 (1 + r3), .slice none 0 0] 44
      have hgw3 := hT3.lt
      refine (HNX.out _ _ 3 (hT3.below hal) (by omega) (by omega)).mono ?_
      rintro e w4 ⟨r4, rfl, h40, h41, t4, ht4, hT4, hg4⟩
      have h42 : r4 < 3 := by omega
      have O4 := O3.onlyN hg4 (by omega)
      have hX4 : OnlyX (fun i => i = g) w3 w4 := (OnlyX.belowU hal).trans (HG1.out _ _ hg4)
      have hown4 := own_onlyX hown3 hX4 (fun i hi e => by have := (hown3.lt i hi).1; omega)
      have hrow4 := hrow3.onlyX hX4 (fun i hi _ e => by omega)
      have hX04 := hX3.trans hX4
      have hs34 : w3.heap.size < w4.heap.size := O4.lt
      obtain ⟨bf, hbf⟩ : ∃ bf, w3.heap.size = bf := ⟨_, rfl⟩
      have hbw : w.heap.size ≤ bf := by have := hX3.size; omega
      have hlow : ∀ i, Value.ownBlock (.slice A k e) = some i → i < bf := fun i hi => by have := (hown3.lt i hi).2; omega
      have hlowH : ∀ (i : Nat) x f, fcs[i]? = some x → fns[i]? = some f → ∀ b off, 0 < x.n → x.A = some ⟨b, off, none⟩ → b < bf := fun i x f h1 h2 b off hn e => by
        obtain ⟨b', off', e', hlt, -⟩ := (hrow3.2 i x f h1 h2).locs.at_ hn
        rw [e] at e'; cases e'; omega
      rw [hbf] at O4 hs34 ⊢
      have HLOW := Lib.hid hlow
      have HLOWH := Lib.hid hlowH
      clear h41 hg4 hT3 hown3 hrow3 hX3 hX4 hal O3 hbf hlow hlowH
      have o0 := O4.cell 0 _ rfl
      have o2 := O4.cell 2 _ rfl
      have of := O4.free
      obtain ⟨hbg, hgb⟩ : bf ≠ g ∧ g < bf := by omega
      have HLAY := Lib.hid (show ∀ wq, OnlyX (fun i => bf ≤ i) w4 wq → TapeAt wq g t4 ∧ wq.ownsRow w.heap.size 44 4 (.slice A k e) k (fcs.flatMap fcCells) ∧ HeadRow wq w.heap.size (Value.ownBlock (.slice A k e)) fcs fns ∧ OnlyX (fun i => i = g) w wq from fun wq ho => by
        refine ⟨?_, own_onlyX hown4 ho (fun i hi e => by have := HLOW.out i hi; omega), ⟨hrow4.1, fun i x f h1 h2 => ?_⟩, hX04.more ho fun i hi e => by omega⟩
        · obtain ⟨tA, tn, tc, tl, tb, tr⟩ := hT4
          exact ⟨tA, tn, tc, tl, tb.onlyX (by omega) ho, tr.keep fun b o hb => World.cell?_of_block (a := ⟨b, o, none⟩) (ho.block b (by omega) (by omega))⟩
        · obtain ⟨q1, q2, q3, q4, q5, q6, q7, q8, q9⟩ := hrow4.2 i x f h1 h2
          exact ⟨q1, q2, q3.onlyX (fun b off hn e hb => by have := HLOWH.out i x f h1 h2 b off hn e; omega) ho, q4, q5, q6, q7, q8, q9⟩)
      clear hown4 hrow4 hX04 hT4
      have hgoal : ∃ (p5 q5 : Int), 0 ≤ p5 ∧ p5 ≤ 2 ∧ (q5 = 1 ∨ q5 = 2) ∧ (k = 0 → p5 = 0 ∧ q5 = 1) ∧ ((k = 0 ∧ p5 = 0 ∧ q5 = 1) ∨ (k ≠ 0 ∧ p5 = r4 ∧ q5 = 1 + r3)) := by
        by_cases hk0 : k = 0
        · exact ⟨0, 1, by omega, by omega, by omega, by omega, Or.inl ⟨hk0, rfl, rfl⟩⟩
        · exact ⟨r4, 1 + r3, by omega, by omega, by omega, fun h => absurd h hk0, Or.inr ⟨hk0, rfl, rfl⟩⟩
      obtain ⟨p5, q5, hp0, hp2, hq12, hk00, hcase⟩ := hgoal
      have HK0 := Lib.hid hk00
      have HP0 := Lib.hid (show 0 ≤ p5 ∧ p5 ≤ 2 from ⟨hp0, hp2⟩)
      have HQ12 := Lib.hid hq12
      clear hk00 hp0 hp2 hq12
      have hfin : ∃ w5 : World, Blk w5 bf 44 #[.int .i64 p5, .slice none 0 0, .int .i64 q5, .slice none 0 0] ∧ OnlyX (fun i => bf ≤ i) w4 w5 ∧ ((k = 0 ∧ w5 = ((w4.setCell ⟨bf, 0, none⟩ (.int .i64 r4)).setCell ⟨bf, 0, none⟩ (.int .i64 0)).setCell ⟨bf, 2, none⟩ (.int .i64 1)) ∨ (k ≠ 0 ∧ w5 = w4.setCell ⟨bf, 0, none⟩ (.int .i64 r4))) := by
        rcases hcase with ⟨h0, h1, h2⟩ | ⟨h0, h1, h2⟩
        · exact ⟨_, by rw [h1, h2]; exact ((O4.set 0 (.int .i64 r4)).set 0 (.int .i64 0)).set 2 (.int .i64 1), ((OnlyX.refl.set (p := ⟨bf, 0, none⟩) (fun _ => Nat.le_refl _) _).set (p := ⟨bf, 0, none⟩) (fun _ => Nat.le_refl _) _).set (p := ⟨bf, 2, none⟩) (fun _ => Nat.le_refl _) _, Or.inl ⟨h0, rfl⟩⟩
        · exact ⟨_, by rw [h1, h2]; exact O4.set 0 (.int .i64 r4), OnlyX.refl.set (p := ⟨bf, 0, none⟩) (fun _ => Nat.le_refl _) _, Or.inr ⟨h0, rfl⟩⟩
      obtain ⟨w5, O5, hX5, hw5⟩ := hfin
      have hT5 := (HLAY.out w5 hX5).1
      have hw5s : bf < w5.heap.size := O5.lt
      have HX5 := Lib.hid hX5
      have HO5 := Lib.hid O5
      have HT5 := Lib.hid hT5
      clear O4 hcase hX5 O5 hT5
      rcases hw5 with ⟨hk0, hw5⟩ | ⟨hk0, hw5⟩
      · have s0 : ((k : Int) == 0) = true := by simp [hk0]
        have HK := Lib.hid hk0
        have HW5 := Lib.hid hw5
        clear hk0 hw5
        go_wp2_with fail
        rw [← HW5.out]
        clear HW5 o0 o2 of s0
        refine (HNX.out _ _ 4 HT5.out (by omega) (by omega)).mono ?_
        rintro e w6 ⟨r6, rfl, h60, h61, t6, ht6, hT6, hg6⟩
        have h62 : r6 < 4 := by omega
        have O6 := HO5.out.onlyN hg6 (by omega)
        have hX6 : OnlyX (fun i => i = g ∨ bf ≤ i) w5 w6 := (HG1.out _ _ hg6).mono (fun i _ e => Or.inl e)
        have w46 : IntKind.i64.wrap (4 + r6) = 4 + r6 := IntWalk.i64_in _ (by omega)
        clear h61 hg6 HT5 HO5
        go_wp2_with fail
        go_loopw [6] (fun x wq => ∃ (j : Nat) (z' : Int) (A' : Option Addr) (e' : Nat) (xs : List Int) (t7 : Nat), x = .int .i64 z' ∧ 0 ≤ z' ∧ z' + j = 4 + r6 ∧ xs.length = j ∧ (∀ q ∈ xs, q = 1 ∨ q = 2) ∧ wq.ownsRow (bf + 1) 3 1 (.slice A' j e') j (xs.flatMap intCells) ∧ Blk wq bf 44 #[.int .i64 p5, .slice A' j e', .int .i64 q5, .slice none 0 0] ∧ TapeAt wq g t7 ∧ t7 ≤ t6 + j ∧ OnlyX (fun i => i = g ∨ bf ≤ i) w5 wq) (fun x _ => (intOf x).toNat)
        case atStart => exact ⟨0, _, none, 0, [], t6, rfl, by omega, by omega, rfl, fun q hq => by simp at hq, World.ownsRow_nil _ _ _ _, O6, hT6, by omega, hX6⟩
        case round =>
          obtain ⟨j, z', A', e', xs, t7, rfl, hz0', hzj, hxl, hty, hown', O', hT7, ht7, hX7⟩ := hrel
          have HXL := Lib.hid hxl
          have HTY := Lib.hid hty
          have HZJ := Lib.hid hzj
          have hj7 : j ≤ 7 := by omega
          clear hxl hty O6 hT6 hX6
          by_cases hz' : 0 < z'
          · have hd' : decide ((0 : Int) < z') = true := decide_eq_true hz'
            have wz : IntKind.i64.wrap (z' - 1) = z' - 1 := IntWalk.i64_in _ (by omega)
            have q1' : j + 1 ≤ maxLen := by unfold maxLen; omega
            have q2' : (j + 1) * 8 ≤ 140737488355328 := by omega
            have x1 := O'.cell 1 _ rfl
            clear hzj
            go_upto_region 12 with fail
            have hTc : TapeAt (World.drew wr) g t7 := hT7.below (Below.refl _ _).drew
            have OO : Blk (World.drew wr) bf 44 #[.int .i64 p5, .slice A' j e', .int .i64 q5, .slice none 0 0] := O'.drew
            have hoc : (World.drew wr).ownsRow (bf + 1) 3 1 (.slice A' j e') j (xs.flatMap intCells) := own_keep hown' (Below.refl _ _).drew
            have o1 := OO.cell 1 _ rfl
            clear x1
            refine wp_region_noPanic ?_
            refine wp_region_held_drew (S := fun u => OnlyX (fun i => i = g ∨ bf ≤ i) wr u) (by kernel_rfl) (OnlyX.refl.drew) (fun hHeld => ?_)
            refine wpAnyH_take (i := 0) (v := ?_) rfl (by kernel_rfl) (by kernel_rfl) (by kernel_rfl) (fun _ _ _ h => h) (Or.inl ⟨by rfl, ?_⟩) (by assumption) ?_
            rotate_left
            · intro wq hSw; clear hSw; go_simp; (try with_reducible rfl)
            (try simp only [List.getElem_toArray, List.getElem_cons_zero, List.getElem_cons_succ, Act.put, List.setIfInBounds_toArray, List.set_cons_zero, List.set_cons_succ])
            refine wpAnyH_take (i := 2) (v := ?_) rfl (by kernel_rfl) (by kernel_rfl) (by kernel_rfl) (fun _ _ _ h => h) (Or.inl ⟨by rfl, ?_⟩) (by assumption) ?_
            rotate_left
            · intro wq hSw; clear hSw; go_simp; (try with_reducible rfl)
            (try simp only [List.getElem_toArray, List.getElem_cons_zero, List.getElem_cons_succ, Act.put, List.setIfInBounds_toArray, List.set_cons_zero, List.set_cons_succ])
            refine wpAnyH_ready (rs := [1, 3]) (by kernel_rfl) (by simp) ?_
            refine AllReadyH.cons (i := 1) (by rfl) ?_ (AllReadyH.cons (i := 3) (by rfl) ?_ (AllReadyH.nil))
            · skip
              intro K' hK
              simp only [List.getElem_toArray, List.getElem_cons_zero, List.getElem_cons_succ]
              refine if_yes (by kernel_rfl) ?_
              go_big_op
              refine hK.out _ _ ?_ (fun hHeld2 => ?_)
              · exact hHeld
              clear hK K' hHeld
              have hHeld := hHeld2
              clear hHeld2
              (try simp only [List.getElem_toArray, List.getElem_cons_zero, List.getElem_cons_succ, Act.put, List.setIfInBounds_toArray, List.set_cons_zero, List.set_cons_succ])
              refine wpAnyH_ready (rs := [3]) (by kernel_rfl) (by simp) ?_
              refine AllReadyH.cons (i := 3) (by rfl) ?_ (AllReadyH.nil)
              intro K' hK
              simp only [List.getElem_toArray, List.getElem_cons_zero, List.getElem_cons_succ]
              refine if_yes (by kernel_rfl) ?_
              go_big_op
              (go_at_call 39; refine (HNX.out _ _ 2 hTc (by omega) (by omega)).mono ?_; rintro e w8 ⟨r8, rfl, h80, h81, t8, ht8, hTc', hg8⟩)
              refine hK.out _ _ ?_ (fun hHeld2 => ?_)
              · exact hHeld.trans ((HG1.out _ _ hg8).mono (fun i _ e => Or.inl e))
              clear hK K' hHeld
              have hHeld := hHeld2
              clear hHeld2
              (try simp only [List.getElem_toArray, List.getElem_cons_zero, List.getElem_cons_succ, Act.put, List.setIfInBounds_toArray, List.set_cons_zero, List.set_cons_succ])
              have OO := OO.onlyN hg8 (by omega)
              have hoc := own_onlyX hoc (HG1.out _ _ hg8) (fun i hi e => by have := (hoc.lt i hi).1; omega)
              have hTc := hTc'
              have o1 := OO.cell 1 _ rfl
              have h82 : r8 < 2 := by omega
              clear hTc' h81 hg8
              have w18 : IntKind.i64.wrap (1 + r8) = 1 + r8 := IntWalk.i64_in _ (by omega)
              refine wpAnyH_take (i := 4) (v := ?_) rfl (by kernel_rfl) (by kernel_rfl) (by kernel_rfl) (fun _ _ _ h => h) (Or.inl ⟨by rfl, ?_⟩) (by assumption) ?_
              rotate_left
              · intro wq hSw; clear hSw; go_simp; (try with_reducible rfl)
              (try simp only [List.getElem_toArray, List.getElem_cons_zero, List.getElem_cons_succ, Act.put, List.setIfInBounds_toArray, List.set_cons_zero, List.set_cons_succ])
              refine wpAnyH_ready (rs := [5]) (by kernel_rfl) (by simp) ?_
              refine AllReadyH.cons (i := 5) (by rfl) ?_ (AllReadyH.nil)
              intro K' hK
              simp only [List.getElem_toArray, List.getElem_cons_zero, List.getElem_cons_succ]
              refine if_yes (by kernel_rfl) ?_
              go_big_op
              refine hK.out _ _ ?_ (fun hHeld2 => ?_)
              · exact hHeld.alloc _
              clear hK K' hHeld
              have hHeld := hHeld2
              clear hHeld2
              (try simp only [List.getElem_toArray, List.getElem_cons_zero, List.getElem_cons_succ, Act.put, List.setIfInBounds_toArray, List.set_cons_zero, List.set_cons_succ])
              have hfr := Reads.freshAs w8 #[.int .i64 (1 + r8)] 3 1 1 [.int .i64 (1 + r8)] rfl rfl (by decide)
              have hba : Below w8.heap.size w8 (w8.alloc (.cells #[.int .i64 (1 + r8)] 3)) := keep_alloc (Below.refl _ _) _
              have OO := OO.below hba
              have hoc := own_keep hoc hba
              have hTc := hTc.below hba
              have o1 := OO.cell 1 _ rfl
              clear hba
              refine wpAnyH_ready (rs := [6]) (by kernel_rfl) (by simp) ?_
              refine AllReadyH.cons (i := 6) (by rfl) ?_ (AllReadyH.nil)
              intro K' hK
              refine step_appB rfl _ _ _ (by rfl) tyInts (by rfl) hoc (by rfl) hfr (by simp [Value.oneCell']) q1' q2' (by have := OO.lt; simp at this ⊢; omega) ?_; intro v' w9 hown9 hg9 hbk9; obtain ⟨A9, c9, rfl, -⟩ := Reads.own hown9
              refine hK.out _ _ ?_ (fun hHeld2 => ?_)
              · exact hHeld.row hg9 (fun i hi _ => Or.inr (by have := (hoc.lt i hi).1; omega))
              clear hK K' hHeld
              have hHeld := hHeld2
              clear hHeld2
              (try simp only [List.getElem_toArray, List.getElem_cons_zero, List.getElem_cons_succ, Act.put, List.setIfInBounds_toArray, List.set_cons_zero, List.set_cons_succ])
              have OO := OO.onlyX (X := fun i => (Value.slice A' j e').ownBlock = some i) (fun e => by have := (hoc.lt _ e).1; omega) (OnlyX.grown hg9)
              have o1 := OO.cell 1 _ rfl
              have off := OO.free
              have hTc := tape_row hTc hg9 (fun e => by have := (hoc.lt _ e).1; omega)
              refine wpAnyH_take (i := 7) (v := ?_) rfl (by kernel_rfl) (by kernel_rfl) (by kernel_rfl) (fun _ _ _ h => h) (Or.inl ⟨by rfl, ?_⟩) (by assumption) ?_
              rotate_left
              · intro wq hSw; clear hSw; go_simp; (try with_reducible rfl)
              (try simp only [List.getElem_toArray, List.getElem_cons_zero, List.getElem_cons_succ, Act.put, List.setIfInBounds_toArray, List.set_cons_zero, List.set_cons_succ])
              refine wpAnyH_ready (rs := [8]) (by kernel_rfl) (by simp) ?_
              refine AllReadyH.cons (i := 8) (by rfl) ?_ (AllReadyH.nil)
              intro K' hK
              simp only [List.getElem_toArray, List.getElem_cons_zero, List.getElem_cons_succ]
              refine if_yes (by kernel_rfl) ?_
              go_big_op
              refine hK.out _ _ ?_ (fun hHeld2 => ?_)
              · exact hHeld.set (p := ⟨bf, 1, none⟩) (fun _ => Or.inr (Nat.le_refl _)) _
              clear hK K' hHeld
              have hHeld := hHeld2
              clear hHeld2
              (try simp only [List.getElem_toArray, List.getElem_cons_zero, List.getElem_cons_succ, Act.put, List.setIfInBounds_toArray, List.set_cons_zero, List.set_cons_succ])
              refine wpAnyH_done (by kernel_rfl) ?_ _
              refine NoPanic.normal ?_
              have hTf := hTc.setN' (p := ⟨bf, 1, none⟩) (by show g < bf; omega) (.slice A9 (j + 1) c9)
              have hOf := OO.set 1 (.slice A9 (j + 1) c9)
              have hwf := ownsRow_setCell_below hown9 (a := ⟨bf, 1, none⟩) (by show bf < bf + 1; omega) (.slice A9 (j + 1) c9)
              have hxf := hX7.trans hHeld
              clear o1 off OO hTc hoc hfr
              go_wp2_with fail
              go_roundw
              case rel =>
                refine ⟨j + 1, z' - 1, A9, c9, xs ++ [1 + r8], t8, rfl, by omega, by have := HZJ.out; omega, by simp [HXL.out], ?_, ?_, hOf, hTf, by omega, hxf⟩
                · intro q hq
                  rcases List.mem_append.1 hq with hq | hq
                  · exact HTY.out q hq
                  · simp only [List.mem_singleton] at hq; omega
                · rw [List.flatMap_append]; exact hwf
              case measure => simp [intOf]; omega
            · skip
              intro K' hK
              simp only [List.getElem_toArray, List.getElem_cons_zero, List.getElem_cons_succ]
              refine if_yes (by kernel_rfl) ?_
              go_big_op
              (go_at_call 39; refine (HNX.out _ _ 2 hTc (by omega) (by omega)).mono ?_; rintro e w8 ⟨r8, rfl, h80, h81, t8, ht8, hTc', hg8⟩)
              refine hK.out _ _ ?_ (fun hHeld2 => ?_)
              · exact hHeld.trans ((HG1.out _ _ hg8).mono (fun i _ e => Or.inl e))
              clear hK K' hHeld
              have hHeld := hHeld2
              clear hHeld2
              (try simp only [List.getElem_toArray, List.getElem_cons_zero, List.getElem_cons_succ, Act.put, List.setIfInBounds_toArray, List.set_cons_zero, List.set_cons_succ])
              have OO := OO.onlyN hg8 (by omega)
              have hoc := own_onlyX hoc (HG1.out _ _ hg8) (fun i hi e => by have := (hoc.lt i hi).1; omega)
              have hTc := hTc'
              have o1 := OO.cell 1 _ rfl
              have h82 : r8 < 2 := by omega
              clear hTc' h81 hg8
              have w18 : IntKind.i64.wrap (1 + r8) = 1 + r8 := IntWalk.i64_in _ (by omega)
              refine wpAnyH_take (i := 4) (v := ?_) rfl (by kernel_rfl) (by kernel_rfl) (by kernel_rfl) (fun _ _ _ h => h) (Or.inl ⟨by rfl, ?_⟩) (by assumption) ?_
              rotate_left
              · intro wq hSw; clear hSw; go_simp; (try with_reducible rfl)
              (try simp only [List.getElem_toArray, List.getElem_cons_zero, List.getElem_cons_succ, Act.put, List.setIfInBounds_toArray, List.set_cons_zero, List.set_cons_succ])
              refine wpAnyH_ready (rs := [1, 5]) (by kernel_rfl) (by simp) ?_
              refine AllReadyH.cons (i := 1) (by rfl) ?_ (AllReadyH.cons (i := 5) (by rfl) ?_ (AllReadyH.nil))
              · skip
                intro K' hK
                simp only [List.getElem_toArray, List.getElem_cons_zero, List.getElem_cons_succ]
                refine if_yes (by kernel_rfl) ?_
                go_big_op
                refine hK.out _ _ ?_ (fun hHeld2 => ?_)
                · exact hHeld
                clear hK K' hHeld
                have hHeld := hHeld2
                clear hHeld2
                (try simp only [List.getElem_toArray, List.getElem_cons_zero, List.getElem_cons_succ, Act.put, List.setIfInBounds_toArray, List.set_cons_zero, List.set_cons_succ])
                refine wpAnyH_ready (rs := [5]) (by kernel_rfl) (by simp) ?_
                refine AllReadyH.cons (i := 5) (by rfl) ?_ (AllReadyH.nil)
                intro K' hK
                simp only [List.getElem_toArray, List.getElem_cons_zero, List.getElem_cons_succ]
                refine if_yes (by kernel_rfl) ?_
                go_big_op
                refine hK.out _ _ ?_ (fun hHeld2 => ?_)
                · exact hHeld.alloc _
                clear hK K' hHeld
                have hHeld := hHeld2
                clear hHeld2
                (try simp only [List.getElem_toArray, List.getElem_cons_zero, List.getElem_cons_succ, Act.put, List.setIfInBounds_toArray, List.set_cons_zero, List.set_cons_succ])
                have hfr := Reads.freshAs w8 #[.int .i64 (1 + r8)] 3 1 1 [.int .i64 (1 + r8)] rfl rfl (by decide)
                have hba : Below w8.heap.size w8 (w8.alloc (.cells #[.int .i64 (1 + r8)] 3)) := keep_alloc (Below.refl _ _) _
                have OO := OO.below hba
                have hoc := own_keep hoc hba
                have hTc := hTc.below hba
                have o1 := OO.cell 1 _ rfl
                clear hba
                refine wpAnyH_ready (rs := [6]) (by kernel_rfl) (by simp) ?_
                refine AllReadyH.cons (i := 6) (by rfl) ?_ (AllReadyH.nil)
                intro K' hK
                refine step_appB rfl _ _ _ (by rfl) tyInts (by rfl) hoc (by rfl) hfr (by simp [Value.oneCell']) q1' q2' (by have := OO.lt; simp at this ⊢; omega) ?_; intro v' w9 hown9 hg9 hbk9; obtain ⟨A9, c9, rfl, -⟩ := Reads.own hown9
                refine hK.out _ _ ?_ (fun hHeld2 => ?_)
                · exact hHeld.row hg9 (fun i hi _ => Or.inr (by have := (hoc.lt i hi).1; omega))
                clear hK K' hHeld
                have hHeld := hHeld2
                clear hHeld2
                (try simp only [List.getElem_toArray, List.getElem_cons_zero, List.getElem_cons_succ, Act.put, List.setIfInBounds_toArray, List.set_cons_zero, List.set_cons_succ])
                have OO := OO.onlyX (X := fun i => (Value.slice A' j e').ownBlock = some i) (fun e => by have := (hoc.lt _ e).1; omega) (OnlyX.grown hg9)
                have o1 := OO.cell 1 _ rfl
                have off := OO.free
                have hTc := tape_row hTc hg9 (fun e => by have := (hoc.lt _ e).1; omega)
                refine wpAnyH_take (i := 7) (v := ?_) rfl (by kernel_rfl) (by kernel_rfl) (by kernel_rfl) (fun _ _ _ h => h) (Or.inl ⟨by rfl, ?_⟩) (by assumption) ?_
                rotate_left
                · intro wq hSw; clear hSw; go_simp; (try with_reducible rfl)
                (try simp only [List.getElem_toArray, List.getElem_cons_zero, List.getElem_cons_succ, Act.put, List.setIfInBounds_toArray, List.set_cons_zero, List.set_cons_succ])
                refine wpAnyH_ready (rs := [8]) (by kernel_rfl) (by simp) ?_
                refine AllReadyH.cons (i := 8) (by rfl) ?_ (AllReadyH.nil)
                intro K' hK
                simp only [List.getElem_toArray, List.getElem_cons_zero, List.getElem_cons_succ]
                refine if_yes (by kernel_rfl) ?_
                go_big_op
                refine hK.out _ _ ?_ (fun hHeld2 => ?_)
                · exact hHeld.set (p := ⟨bf, 1, none⟩) (fun _ => Or.inr (Nat.le_refl _)) _
                clear hK K' hHeld
                have hHeld := hHeld2
                clear hHeld2
                (try simp only [List.getElem_toArray, List.getElem_cons_zero, List.getElem_cons_succ, Act.put, List.setIfInBounds_toArray, List.set_cons_zero, List.set_cons_succ])
                refine wpAnyH_done (by kernel_rfl) ?_ _
                refine NoPanic.normal ?_
                have hTf := hTc.setN' (p := ⟨bf, 1, none⟩) (by show g < bf; omega) (.slice A9 (j + 1) c9)
                have hOf := OO.set 1 (.slice A9 (j + 1) c9)
                have hwf := ownsRow_setCell_below hown9 (a := ⟨bf, 1, none⟩) (by show bf < bf + 1; omega) (.slice A9 (j + 1) c9)
                have hxf := hX7.trans hHeld
                clear o1 off OO hTc hoc hfr
                go_wp2_with fail
                go_roundw
                case rel =>
                  refine ⟨j + 1, z' - 1, A9, c9, xs ++ [1 + r8], t8, rfl, by omega, by have := HZJ.out; omega, by simp [HXL.out], ?_, ?_, hOf, hTf, by omega, hxf⟩
                  · intro q hq
                    rcases List.mem_append.1 hq with hq | hq
                    · exact HTY.out q hq
                    · simp only [List.mem_singleton] at hq; omega
                  · rw [List.flatMap_append]; exact hwf
                case measure => simp [intOf]; omega
              · skip
                intro K' hK
                simp only [List.getElem_toArray, List.getElem_cons_zero, List.getElem_cons_succ]
                refine if_yes (by kernel_rfl) ?_
                go_big_op
                refine hK.out _ _ ?_ (fun hHeld2 => ?_)
                · exact hHeld.alloc _
                clear hK K' hHeld
                have hHeld := hHeld2
                clear hHeld2
                (try simp only [List.getElem_toArray, List.getElem_cons_zero, List.getElem_cons_succ, Act.put, List.setIfInBounds_toArray, List.set_cons_zero, List.set_cons_succ])
                have hfr := Reads.freshAs w8 #[.int .i64 (1 + r8)] 3 1 1 [.int .i64 (1 + r8)] rfl rfl (by decide)
                have hba : Below w8.heap.size w8 (w8.alloc (.cells #[.int .i64 (1 + r8)] 3)) := keep_alloc (Below.refl _ _) _
                have OO := OO.below hba
                have hoc := own_keep hoc hba
                have hTc := hTc.below hba
                have o1 := OO.cell 1 _ rfl
                clear hba
                refine wpAnyH_ready (rs := [1]) (by kernel_rfl) (by simp) ?_
                refine AllReadyH.cons (i := 1) (by rfl) ?_ (AllReadyH.nil)
                intro K' hK
                simp only [List.getElem_toArray, List.getElem_cons_zero, List.getElem_cons_succ]
                refine if_yes (by kernel_rfl) ?_
                go_big_op
                refine hK.out _ _ ?_ (fun hHeld2 => ?_)
                · exact hHeld
                clear hK K' hHeld
                have hHeld := hHeld2
                clear hHeld2
                (try simp only [List.getElem_toArray, List.getElem_cons_zero, List.getElem_cons_succ, Act.put, List.setIfInBounds_toArray, List.set_cons_zero, List.set_cons_succ])
                refine wpAnyH_ready (rs := [6]) (by kernel_rfl) (by simp) ?_
                refine AllReadyH.cons (i := 6) (by rfl) ?_ (AllReadyH.nil)
                intro K' hK
                refine step_appB rfl _ _ _ (by rfl) tyInts (by rfl) hoc (by rfl) hfr (by simp [Value.oneCell']) q1' q2' (by have := OO.lt; simp at this ⊢; omega) ?_; intro v' w9 hown9 hg9 hbk9; obtain ⟨A9, c9, rfl, -⟩ := Reads.own hown9
                refine hK.out _ _ ?_ (fun hHeld2 => ?_)
                · exact hHeld.row hg9 (fun i hi _ => Or.inr (by have := (hoc.lt i hi).1; omega))
                clear hK K' hHeld
                have hHeld := hHeld2
                clear hHeld2
                (try simp only [List.getElem_toArray, List.getElem_cons_zero, List.getElem_cons_succ, Act.put, List.setIfInBounds_toArray, List.set_cons_zero, List.set_cons_succ])
                have OO := OO.onlyX (X := fun i => (Value.slice A' j e').ownBlock = some i) (fun e => by have := (hoc.lt _ e).1; omega) (OnlyX.grown hg9)
                have o1 := OO.cell 1 _ rfl
                have off := OO.free
                have hTc := tape_row hTc hg9 (fun e => by have := (hoc.lt _ e).1; omega)
                refine wpAnyH_take (i := 7) (v := ?_) rfl (by kernel_rfl) (by kernel_rfl) (by kernel_rfl) (fun _ _ _ h => h) (Or.inl ⟨by rfl, ?_⟩) (by assumption) ?_
                rotate_left
                · intro wq hSw; clear hSw; go_simp; (try with_reducible rfl)
                (try simp only [List.getElem_toArray, List.getElem_cons_zero, List.getElem_cons_succ, Act.put, List.setIfInBounds_toArray, List.set_cons_zero, List.set_cons_succ])
                refine wpAnyH_ready (rs := [8]) (by kernel_rfl) (by simp) ?_
                refine AllReadyH.cons (i := 8) (by rfl) ?_ (AllReadyH.nil)
                intro K' hK
                simp only [List.getElem_toArray, List.getElem_cons_zero, List.getElem_cons_succ]
                refine if_yes (by kernel_rfl) ?_
                go_big_op
                refine hK.out _ _ ?_ (fun hHeld2 => ?_)
                · exact hHeld.set (p := ⟨bf, 1, none⟩) (fun _ => Or.inr (Nat.le_refl _)) _
                clear hK K' hHeld
                have hHeld := hHeld2
                clear hHeld2
                (try simp only [List.getElem_toArray, List.getElem_cons_zero, List.getElem_cons_succ, Act.put, List.setIfInBounds_toArray, List.set_cons_zero, List.set_cons_succ])
                refine wpAnyH_done (by kernel_rfl) ?_ _
                refine NoPanic.normal ?_
                have hTf := hTc.setN' (p := ⟨bf, 1, none⟩) (by show g < bf; omega) (.slice A9 (j + 1) c9)
                have hOf := OO.set 1 (.slice A9 (j + 1) c9)
                have hwf := ownsRow_setCell_below hown9 (a := ⟨bf, 1, none⟩) (by show bf < bf + 1; omega) (.slice A9 (j + 1) c9)
                have hxf := hX7.trans hHeld
                clear o1 off OO hTc hoc hfr
                go_wp2_with fail
                go_roundw
                case rel =>
                  refine ⟨j + 1, z' - 1, A9, c9, xs ++ [1 + r8], t8, rfl, by omega, by have := HZJ.out; omega, by simp [HXL.out], ?_, ?_, hOf, hTf, by omega, hxf⟩
                  · intro q hq
                    rcases List.mem_append.1 hq with hq | hq
                    · exact HTY.out q hq
                    · simp only [List.mem_singleton] at hq; omega
                  · rw [List.flatMap_append]; exact hwf
                case measure => simp [intOf]; omega
          · have hz'0 : z' = 0 := by omega
            subst hz'0
            have hd' : decide ((0 : Int) < 0) = false := by simp
            clear hz'
            have hjj : 4 ≤ j ∧ j ≤ 7 := by omega
            obtain ⟨bL, cap, cur, hv, hge, hBL, hle, hcap, hcs, htk⟩ := own_block hown' (by omega) (by omega)
            injection hv with hv1 hv2 hv3
            subst hv1
            subst hv3
            have x1 := O'.cell 1 _ rfl
            obtain ⟨u3, hu3⟩ : ∃ u3, cur[3]? = some u3 := ⟨_, Array.getElem?_eq_getElem (by omega)⟩
            obtain ⟨u2, hu2⟩ : ∃ u2, cur[2]? = some u2 := ⟨_, Array.getElem?_eq_getElem (by omega)⟩
            have c3 : (World.drew wr).cell? ⟨bL, 3, none⟩ = some u3 := hBL.drew.cell 3 _ hu3
            have c2 : (World.drew wr).cell? ⟨bL, 2, none⟩ = some u2 := hBL.drew.cell 2 _ hu2
            have i3 : (3 : Int) < (j : Int) := by omega
            have i2 : (2 : Int) < (j : Int) := by omega
            have i3' : 3 < j := by omega
            have i2' : 2 < j := by omega
            have hLb : bL ≠ bf := by omega
            have BL : Blk (World.drew wr) bL 3 cur := hBL.drew
            have bfr := BL.free
            have c3w := hBL.cell 3 _ hu3
            have c2w := hBL.cell 2 _ hu2
            have bfw := hBL.free
            have HU3 := Lib.hid hu3
            have HU2 := Lib.hid hu2
            have HHX := Lib.hid (show OnlyX (fun i => i = g ∨ bf ≤ i) w5 (World.drew wr) from hX7.drew)
            clear hu3 hu2 hcs htk hzj
            go_upto_region 13 with fail
            refine wp_region_noPanic ?_
            refine wp_region_held_drew (S := fun u => u.cell? ⟨bf, 1, none⟩ = some (.slice (some ⟨bL, 0, none⟩) j e') ∧ OnlyX (fun i => bf ≤ i) (World.drew wr) u) (by kernel_rfl) (⟨x1, OnlyX.refl⟩) (fun hHeld => ?_)
            clear x1
            refine wpAnyH_take (i := 0) (v := ?_) rfl (by kernel_rfl) (by kernel_rfl) (by kernel_rfl) (fun _ _ _ h => h) (Or.inl ⟨by rfl, ?_⟩) (by assumption) ?_
            rotate_left
            · intro wq hSw; clear hSw; go_simp; (try with_reducible rfl)
            (try simp only [List.getElem_toArray, List.getElem_cons_zero, List.getElem_cons_succ, Act.put, List.setIfInBounds_toArray, List.set_cons_zero, List.set_cons_succ])
            refine wpAnyH_take (i := 1) (v := ?_) rfl (by kernel_rfl) (by kernel_rfl) (by kernel_rfl) (fun _ _ _ h => h) (Or.inl ⟨by rfl, ?_⟩) (by assumption) ?_
            rotate_left
            · intro wq hSw; have y1 := hSw.1; clear hSw; go_simp; (try with_reducible rfl)
            (try simp only [List.getElem_toArray, List.getElem_cons_zero, List.getElem_cons_succ, Act.put, List.setIfInBounds_toArray, List.set_cons_zero, List.set_cons_succ])
            refine wpAnyH_take (i := 2) (v := ?_) rfl (by kernel_rfl) (by kernel_rfl) (by kernel_rfl) (fun _ _ _ h => h) (Or.inl ⟨by rfl, ?_⟩) (by assumption) ?_
            rotate_left
            · intro wq hSw; clear hSw; go_simp; (try with_reducible rfl)
            (try simp only [List.getElem_toArray, List.getElem_cons_zero, List.getElem_cons_succ, Act.put, List.setIfInBounds_toArray, List.set_cons_zero, List.set_cons_succ])
            refine wpAnyH_take (i := 3) (v := ?_) rfl (by kernel_rfl) (by kernel_rfl) (by kernel_rfl) (fun _ _ _ h => h) (Or.inl ⟨by rfl, ?_⟩) (by assumption) ?_
            rotate_left
            · intro wq hSw; have y1 := hSw.1; clear hSw; go_simp; (try with_reducible rfl)
            (try simp only [List.getElem_toArray, List.getElem_cons_zero, List.getElem_cons_succ, Act.put, List.setIfInBounds_toArray, List.set_cons_zero, List.set_cons_succ])
            refine wpAnyH_take (i := 4) (v := ?_) rfl (by kernel_rfl) (by kernel_rfl) (by kernel_rfl) (fun _ _ _ h => h) (Or.inl ⟨by rfl, ?_⟩) (by assumption) ?_
            rotate_left
            · intro wq hSw; clear hSw; go_simp; (try with_reducible rfl)
            (try simp only [List.getElem_toArray, List.getElem_cons_zero, List.getElem_cons_succ, Act.put, List.setIfInBounds_toArray, List.set_cons_zero, List.set_cons_succ])
            refine wpAnyH_ready (rs := [5]) (by kernel_rfl) (by simp) ?_
            refine AllReadyH.cons (i := 5) (by rfl) ?_ (AllReadyH.nil)
            intro K' hK
            simp only [List.getElem_toArray, List.getElem_cons_zero, List.getElem_cons_succ]
            refine if_yes (by kernel_rfl) ?_
            go_big_op
            refine hK.out _ _ ?_ (fun hHeld2 => ?_)
            · exact ⟨cell_far (by show bL ≠ bf; exact hLb) hHeld.1, hHeld.2.set (p := ⟨bL, 3, none⟩) (fun _ => by show bf ≤ bL; omega) _⟩
            clear hK K' hHeld
            have hHeld := hHeld2
            clear hHeld2
            (try simp only [List.getElem_toArray, List.getElem_cons_zero, List.getElem_cons_succ, Act.put, List.setIfInBounds_toArray, List.set_cons_zero, List.set_cons_succ])
            have BL := BL.set 3 (.int .i64 1)
            have bfr := BL.free
            have c2 := BL.cell 2 u2 (by first | exact HU2.out | exact (Array.getElem?_setIfInBounds_ne (by omega)).trans HU2.out)
            refine wpAnyH_take (i := 6) (v := ?_) rfl (by kernel_rfl) (by kernel_rfl) (by kernel_rfl) (fun _ _ _ h => h) (Or.inl ⟨by rfl, ?_⟩) (by assumption) ?_
            rotate_left
            · intro wq hSw; clear hSw; go_simp; (try with_reducible rfl)
            (try simp only [List.getElem_toArray, List.getElem_cons_zero, List.getElem_cons_succ, Act.put, List.setIfInBounds_toArray, List.set_cons_zero, List.set_cons_succ])
            refine wpAnyH_ready (rs := [7]) (by kernel_rfl) (by simp) ?_
            refine AllReadyH.cons (i := 7) (by rfl) ?_ (AllReadyH.nil)
            intro K' hK
            simp only [List.getElem_toArray, List.getElem_cons_zero, List.getElem_cons_succ]
            refine if_yes (by kernel_rfl) ?_
            go_big_op
            refine hK.out _ _ ?_ (fun hHeld2 => ?_)
            · exact ⟨cell_far (by show bL ≠ bf; exact hLb) hHeld.1, hHeld.2.set (p := ⟨bL, 2, none⟩) (fun _ => by show bf ≤ bL; omega) _⟩
            clear hK K' hHeld
            have hHeld := hHeld2
            clear hHeld2
            (try simp only [List.getElem_toArray, List.getElem_cons_zero, List.getElem_cons_succ, Act.put, List.setIfInBounds_toArray, List.set_cons_zero, List.set_cons_succ])
            refine wpAnyH_done (by kernel_rfl) ?_ _
            refine NoPanic.normal ?_
            obtain ⟨hty1, hty3, hty2⟩ := set23 (xs := xs) (by have := HXL.out; omega) HTY.out
            have hrowL : (World.drew ((wr.setCell ⟨bL, 3, none⟩ (.int .i64 1)).setCell ⟨bL, 2, none⟩ (.int .i64 2))).ownsRow (bf + 1) 3 1 (.slice (some ⟨bL, 0, none⟩) j e') j (((xs.set 3 1).set 2 2).flatMap intCells) := by
              rw [← intCells_set, ← intCells_set]
              exact own_keep ((hown'.stored 3 (.int .i64 1)).1.stored 2 (.int .i64 2)).1 (Below.refl _ _).drew
            have hO10 : Blk (World.drew ((wr.setCell ⟨bL, 3, none⟩ (.int .i64 1)).setCell ⟨bL, 2, none⟩ (.int .i64 2))) bf 44 #[.int .i64 p5, .slice (some ⟨bL, 0, none⟩) j e', .int .i64 q5, .slice none 0 0] := ((O'.far (p := ⟨bL, 3, none⟩) (by show bf ≠ bL; omega) _).far (p := ⟨bL, 2, none⟩) (by show bf ≠ bL; omega) _).drew
            have hT10 : TapeAt (World.drew ((wr.setCell ⟨bL, 3, none⟩ (.int .i64 1)).setCell ⟨bL, 2, none⟩ (.int .i64 2))) g t7 := ((hT7.setN' (p := ⟨bL, 3, none⟩) (by show g < bL; omega) _).setN' (p := ⟨bL, 2, none⟩) (by show g < bL; omega) _).below (Below.refl _ _).drew
            have hX10 : OnlyX (fun i => i = g ∨ bf ≤ i) w5 (World.drew ((wr.setCell ⟨bL, 3, none⟩ (.int .i64 1)).setCell ⟨bL, 2, none⟩ (.int .i64 2))) := HHX.out.trans (hHeld.2.mono (fun i _ h => Or.inr h))
            obtain ⟨w10, hw10⟩ : ∃ w10, World.drew ((wr.setCell ⟨bL, 3, none⟩ (.int .i64 1)).setCell ⟨bL, 2, none⟩ (.int .i64 2)) = w10 := ⟨_, rfl⟩
            rw [hw10] at hrowL hO10 hT10 hX10 ⊢
            obtain ⟨xs2, hxs2⟩ : ∃ xs2, (xs.set 3 1).set 2 2 = xs2 := ⟨_, rfl⟩
            have hl2 : xs2.length = j := by rw [← hxs2]; simp [HXL.out]
            rw [hxs2] at hrowL hty1 hty2 hty3
            have hX4a : OnlyX (fun i => i = g ∨ bf ≤ i) w4 w10 := (HX5.out.mono (fun i _ h => Or.inr h)).trans hX10
            have hOWN := own_onlyX (HLAY.out w5 HX5.out).2.1 hX10 (fun i hi e => by have := HLOW.out i hi; have := ((HLAY.out w5 HX5.out).2.1.lt i hi).1; omega)
            have hROW : HeadRow w10 w.heap.size (Value.ownBlock (.slice A k e)) fcs fns := ⟨(HLAY.out w5 HX5.out).2.2.1.1, fun i x f h1 h2 => by
              obtain ⟨q1, q2, q3, q4, q5, q6, q7, q8, q9⟩ := (HLAY.out w5 HX5.out).2.2.1.2 i x f h1 h2
              exact ⟨q1, q2, q3.onlyX (fun b off hn e hb => by have := HLOWH.out i x f h1 h2 b off hn e; have := (q4 b off hn e).1; omega) hX10, q4, q5, q6, q7, q8, q9⟩⟩
            have hXW : OnlyX (fun i => i = g) w w10 := (HLAY.out w5 HX5.out).2.2.2.more hX10 (fun i hi h => by omega)
            have hHD : HeadAt w10 w.heap.size (Value.ownBlock (.slice A k e)) ⟨p5, some ⟨bL, 0, none⟩, j, e', q5, none, 0, 0⟩ ⟨p5, xs2, q5, []⟩ := by
              obtain ⟨A4, c4, e4, hr4⟩ := Reads.own hrowL
              injection e4 with x1 x2 x3
              subst x1 x3
              exact ⟨rfl, rfl, hr4, fun b off hn e => by cases e; exact ⟨by omega, fun e => by have := HLOW.out _ e.symm; omega⟩, ⟨HP0.out.1, HP0.out.2, HQ12.out, by dsimp only; omega, by dsimp only; omega, hty1, hty3, hty2⟩, rfl, rfl, rfl, rfl⟩
            have y0 := hO10.cell 0 _ rfl
            have y1 := hO10.cell 1 _ rfl
            have y2 := hO10.cell 2 _ rfl
            have y3 := hO10.cell 3 _ rfl
            have hfr := Reads.freshAs w10 #[.int .i64 p5, .slice (some ⟨bL, 0, none⟩) j e', .int .i64 q5, .slice none 0 0] 44 4 1 [.int .i64 p5, .slice (some ⟨bL, 0, none⟩) j e', .int .i64 q5, .slice none 0 0] rfl rfl (by decide)
            have hba : Below w10.heap.size w10 (w10.alloc (.cells #[.int .i64 p5, .slice (some ⟨bL, 0, none⟩) j e', .int .i64 q5, .slice none 0 0] 44)) := keep_alloc (Below.refl _ _) _
            have hOWN2 := own_keep hOWN hba
            have hROW2 := (hROW.snoc hHD).onlyX (X := fun _ => False) (OnlyX.belowU hba) (fun _ _ _ h => h)
            have hT11 := hT10.below hba
            have hX11 := hXW.keep hba
            have p1 : k + 1 ≤ maxLen := by unfold maxLen; omega
            have p2 : (k + 1) * 64 ≤ 140737488355328 := by omega
            have wzz : IntKind.i64.wrap (z - 1) = z - 1 := IntWalk.i64_in _ (by omega)
            have hwt : w.heap.size ≤ (w10.alloc (.cells #[.int .i64 p5, .slice (some ⟨bL, 0, none⟩) j e', .int .i64 q5, .slice none 0 0] 44)).heap.size := hX11.size
            have HROW2 := Lib.hid hROW2
            have HL2 := Lib.hid hl2
            clear hw10 hxs2 hl2 hROW hHD hROW2 hba hOWN hX10 hX4a hT10 hXW hO10 hrowL hty1 hty2 hty3 hHeld c2 c3 bfr BL c2w c3w bfw i2 i3 i2' i3'
            go_wp2_with (at_builtin; refine wpList_appB rfl _ _ _ (by rfl) tyRFns (by rfl) hOWN2 (by rfl) hfr (by simp [Value.oneCell']) p1 p2 hwt ?_; intro v' w12 hown12 hg12 hbk12; obtain ⟨A12, c12, rfl, -⟩ := Reads.own hown12)
            go_roundw
            case rel =>
              refine ⟨k + 1, z - 1, A12, c12, fcs ++ [⟨p5, some ⟨bL, 0, none⟩, j, e', q5, none, 0, 0⟩], fns ++ [⟨p5, xs2, q5, []⟩], t7, rfl, rfl, by omega, by have := HZK.out; omega, ?_, HROW2.out.grown hg12 hbk12, by simp [HFL.out], fun _ => HeadsOk.snoc HOK.out (fun h => HK0.out (by have h1 := snoc_len HROW2.out.1; have := HFL.out; omega)), by omega, tape_row hT11 hg12 (fun e => by have := (hOWN2.lt _ e).1; omega), hX11.row hg12 (fun i hi hl => by have := (hOWN2.lt i hi).1; omega)⟩
              rw [List.flatMap_append]
              exact hown12
            case measure => simp [intOf]; omega
      · have s0 : ((k : Int) == 0) = false := by simp; omega
        have HK := Lib.hid hk0
        have HW5 := Lib.hid hw5
        clear hk0 hw5
        go_wp2_with fail
        rw [← HW5.out]
        clear HW5 o0 o2 of s0
        refine (HNX.out _ _ 4 HT5.out (by omega) (by omega)).mono ?_
        rintro e w6 ⟨r6, rfl, h60, h61, t6, ht6, hT6, hg6⟩
        have h62 : r6 < 4 := by omega
        have O6 := HO5.out.onlyN hg6 (by omega)
        have hX6 : OnlyX (fun i => i = g ∨ bf ≤ i) w5 w6 := (HG1.out _ _ hg6).mono (fun i _ e => Or.inl e)
        have w46 : IntKind.i64.wrap (4 + r6) = 4 + r6 := IntWalk.i64_in _ (by omega)
        clear h61 hg6 HT5 HO5
        go_wp2_with fail
        go_loopw [6] (fun x wq => ∃ (j : Nat) (z' : Int) (A' : Option Addr) (e' : Nat) (xs : List Int) (t7 : Nat), x = .int .i64 z' ∧ 0 ≤ z' ∧ z' + j = 4 + r6 ∧ xs.length = j ∧ (∀ q ∈ xs, q = 1 ∨ q = 2) ∧ wq.ownsRow (bf + 1) 3 1 (.slice A' j e') j (xs.flatMap intCells) ∧ Blk wq bf 44 #[.int .i64 p5, .slice A' j e', .int .i64 q5, .slice none 0 0] ∧ TapeAt wq g t7 ∧ t7 ≤ t6 + j ∧ OnlyX (fun i => i = g ∨ bf ≤ i) w5 wq) (fun x _ => (intOf x).toNat)
        case atStart => exact ⟨0, _, none, 0, [], t6, rfl, by omega, by omega, rfl, fun q hq => by simp at hq, World.ownsRow_nil _ _ _ _, O6, hT6, by omega, hX6⟩
        case round =>
          obtain ⟨j, z', A', e', xs, t7, rfl, hz0', hzj, hxl, hty, hown', O', hT7, ht7, hX7⟩ := hrel
          have HXL := Lib.hid hxl
          have HTY := Lib.hid hty
          have HZJ := Lib.hid hzj
          have hj7 : j ≤ 7 := by omega
          clear hxl hty O6 hT6 hX6
          by_cases hz' : 0 < z'
          · have hd' : decide ((0 : Int) < z') = true := decide_eq_true hz'
            have wz : IntKind.i64.wrap (z' - 1) = z' - 1 := IntWalk.i64_in _ (by omega)
            have q1' : j + 1 ≤ maxLen := by unfold maxLen; omega
            have q2' : (j + 1) * 8 ≤ 140737488355328 := by omega
            have x1 := O'.cell 1 _ rfl
            clear hzj
            go_upto_region 12 with fail
            have hTc : TapeAt (World.drew wr) g t7 := hT7.below (Below.refl _ _).drew
            have OO : Blk (World.drew wr) bf 44 #[.int .i64 p5, .slice A' j e', .int .i64 q5, .slice none 0 0] := O'.drew
            have hoc : (World.drew wr).ownsRow (bf + 1) 3 1 (.slice A' j e') j (xs.flatMap intCells) := own_keep hown' (Below.refl _ _).drew
            have o1 := OO.cell 1 _ rfl
            clear x1
            refine wp_region_noPanic ?_
            refine wp_region_held_drew (S := fun u => OnlyX (fun i => i = g ∨ bf ≤ i) wr u) (by kernel_rfl) (OnlyX.refl.drew) (fun hHeld => ?_)
            refine wpAnyH_take (i := 0) (v := ?_) rfl (by kernel_rfl) (by kernel_rfl) (by kernel_rfl) (fun _ _ _ h => h) (Or.inl ⟨by rfl, ?_⟩) (by assumption) ?_
            rotate_left
            · intro wq hSw; clear hSw; go_simp; (try with_reducible rfl)
            (try simp only [List.getElem_toArray, List.getElem_cons_zero, List.getElem_cons_succ, Act.put, List.setIfInBounds_toArray, List.set_cons_zero, List.set_cons_succ])
            refine wpAnyH_take (i := 2) (v := ?_) rfl (by kernel_rfl) (by kernel_rfl) (by kernel_rfl) (fun _ _ _ h => h) (Or.inl ⟨by rfl, ?_⟩) (by assumption) ?_
            rotate_left
            · intro wq hSw; clear hSw; go_simp; (try with_reducible rfl)
            (try simp only [List.getElem_toArray, List.getElem_cons_zero, List.getElem_cons_succ, Act.put, List.setIfInBounds_toArray, List.set_cons_zero, List.set_cons_succ])
            refine wpAnyH_ready (rs := [1, 3]) (by kernel_rfl) (by simp) ?_
            refine AllReadyH.cons (i := 1) (by rfl) ?_ (AllReadyH.cons (i := 3) (by rfl) ?_ (AllReadyH.nil))
            · skip
              intro K' hK
              simp only [List.getElem_toArray, List.getElem_cons_zero, List.getElem_cons_succ]
              refine if_yes (by kernel_rfl) ?_
              go_big_op
              refine hK.out _ _ ?_ (fun hHeld2 => ?_)
              · exact hHeld
              clear hK K' hHeld
              have hHeld := hHeld2
              clear hHeld2
              (try simp only [List.getElem_toArray, List.getElem_cons_zero, List.getElem_cons_succ, Act.put, List.setIfInBounds_toArray, List.set_cons_zero, List.set_cons_succ])
              refine wpAnyH_ready (rs := [3]) (by kernel_rfl) (by simp) ?_
              refine AllReadyH.cons (i := 3) (by rfl) ?_ (AllReadyH.nil)
              intro K' hK
              simp only [List.getElem_toArray, List.getElem_cons_zero, List.getElem_cons_succ]
              refine if_yes (by kernel_rfl) ?_
              go_big_op
              (go_at_call 39; refine (HNX.out _ _ 2 hTc (by omega) (by omega)).mono ?_; rintro e w8 ⟨r8, rfl, h80, h81, t8, ht8, hTc', hg8⟩)
              refine hK.out _ _ ?_ (fun hHeld2 => ?_)
              · exact hHeld.trans ((HG1.out _ _ hg8).mono (fun i _ e => Or.inl e))
              clear hK K' hHeld
              have hHeld := hHeld2
              clear hHeld2
              (try simp only [List.getElem_toArray, List.getElem_cons_zero, List.getElem_cons_succ, Act.put, List.setIfInBounds_toArray, List.set_cons_zero, List.set_cons_succ])
              have OO := OO.onlyN hg8 (by omega)
              have hoc := own_onlyX hoc (HG1.out _ _ hg8) (fun i hi e => by have := (hoc.lt i hi).1; omega)
              have hTc := hTc'
              have o1 := OO.cell 1 _ rfl
              have h82 : r8 < 2 := by omega
              clear hTc' h81 hg8
              have w18 : IntKind.i64.wrap (1 + r8) = 1 + r8 := IntWalk.i64_in _ (by omega)
              refine wpAnyH_take (i := 4) (v := ?_) rfl (by kernel_rfl) (by kernel_rfl) (by kernel_rfl) (fun _ _ _ h => h) (Or.inl ⟨by rfl, ?_⟩) (by assumption) ?_
              rotate_left
              · intro wq hSw; clear hSw; go_simp; (try with_reducible rfl)
              (try simp only [List.getElem_toArray, List.getElem_cons_zero, List.getElem_cons_succ, Act.put, List.setIfInBounds_toArray, List.set_cons_zero, List.set_cons_succ])
              refine wpAnyH_ready (rs := [5]) (by kernel_rfl) (by simp) ?_
              refine AllReadyH.cons (i := 5) (by rfl) ?_ (AllReadyH.nil)
              intro K' hK
              simp only [List.getElem_toArray, List.getElem_cons_zero, List.getElem_cons_succ]
              refine if_yes (by kernel_rfl) ?_
              go_big_op
              refine hK.out _ _ ?_ (fun hHeld2 => ?_)
              · exact hHeld.alloc _
              clear hK K' hHeld
              have hHeld := hHeld2
              clear hHeld2
              (try simp only [List.getElem_toArray, List.getElem_cons_zero, List.getElem_cons_succ, Act.put, List.setIfInBounds_toArray, List.set_cons_zero, List.set_cons_succ])
              have hfr := Reads.freshAs w8 #[.int .i64 (1 + r8)] 3 1 1 [.int .i64 (1 + r8)] rfl rfl (by decide)
              have hba : Below w8.heap.size w8 (w8.alloc (.cells #[.int .i64 (1 + r8)] 3)) := keep_alloc (Below.refl _ _) _
              have OO := OO.below hba
              have hoc := own_keep hoc hba
              have hTc := hTc.below hba
              have o1 := OO.cell 1 _ rfl
              clear hba
              refine wpAnyH_ready (rs := [6]) (by kernel_rfl) (by simp) ?_
              refine AllReadyH.cons (i := 6) (by rfl) ?_ (AllReadyH.nil)
              intro K' hK
              refine step_appB rfl _ _ _ (by rfl) tyInts (by rfl) hoc (by rfl) hfr (by simp [Value.oneCell']) q1' q2' (by have := OO.lt; simp at this ⊢; omega) ?_; intro v' w9 hown9 hg9 hbk9; obtain ⟨A9, c9, rfl, -⟩ := Reads.own hown9
              refine hK.out _ _ ?_ (fun hHeld2 => ?_)
              · exact hHeld.row hg9 (fun i hi _ => Or.inr (by have := (hoc.lt i hi).1; omega))
              clear hK K' hHeld
              have hHeld := hHeld2
              clear hHeld2
              (try simp only [List.getElem_toArray, List.getElem_cons_zero, List.getElem_cons_succ, Act.put, List.setIfInBounds_toArray, List.set_cons_zero, List.set_cons_succ])
              have OO := OO.onlyX (X := fun i => (Value.slice A' j e').ownBlock = some i) (fun e => by have := (hoc.lt _ e).1; omega) (OnlyX.grown hg9)
              have o1 := OO.cell 1 _ rfl
              have off := OO.free
              have hTc := tape_row hTc hg9 (fun e => by have := (hoc.lt _ e).1; omega)
              refine wpAnyH_take (i := 7) (v := ?_) rfl (by kernel_rfl) (by kernel_rfl) (by kernel_rfl) (fun _ _ _ h => h) (Or.inl ⟨by rfl, ?_⟩) (by assumption) ?_
              rotate_left
              · intro wq hSw; clear hSw; go_simp; (try with_reducible rfl)
              (try simp only [List.getElem_toArray, List.getElem_cons_zero, List.getElem_cons_succ, Act.put, List.setIfInBounds_toArray, List.set_cons_zero, List.set_cons_succ])
              refine wpAnyH_ready (rs := [8]) (by kernel_rfl) (by simp) ?_
              refine AllReadyH.cons (i := 8) (by rfl) ?_ (AllReadyH.nil)
              intro K' hK
              simp only [List.getElem_toArray, List.getElem_cons_zero, List.getElem_cons_succ]
              refine if_yes (by kernel_rfl) ?_
              go_big_op
              refine hK.out _ _ ?_ (fun hHeld2 => ?_)
              · exact hHeld.set (p := ⟨bf, 1, none⟩) (fun _ => Or.inr (Nat.le_refl _)) _
              clear hK K' hHeld
              have hHeld := hHeld2
              clear hHeld2
              (try simp only [List.getElem_toArray, List.getElem_cons_zero, List.getElem_cons_succ, Act.put, List.setIfInBounds_toArray, List.set_cons_zero, List.set_cons_succ])
              refine wpAnyH_done (by kernel_rfl) ?_ _
              refine NoPanic.normal ?_
              have hTf := hTc.setN' (p := ⟨bf, 1, none⟩) (by show g < bf; omega) (.slice A9 (j + 1) c9)
              have hOf := OO.set 1 (.slice A9 (j + 1) c9)
              have hwf := ownsRow_setCell_below hown9 (a := ⟨bf, 1, none⟩) (by show bf < bf + 1; omega) (.slice A9 (j + 1) c9)
              have hxf := hX7.trans hHeld
              clear o1 off OO hTc hoc hfr
              go_wp2_with fail
              go_roundw
              case rel =>
                refine ⟨j + 1, z' - 1, A9, c9, xs ++ [1 + r8], t8, rfl, by omega, by have := HZJ.out; omega, by simp [HXL.out], ?_, ?_, hOf, hTf, by omega, hxf⟩
                · intro q hq
                  rcases List.mem_append.1 hq with hq | hq
                  · exact HTY.out q hq
                  · simp only [List.mem_singleton] at hq; omega
                · rw [List.flatMap_append]; exact hwf
              case measure => simp [intOf]; omega
            · skip
              intro K' hK
              simp only [List.getElem_toArray, List.getElem_cons_zero, List.getElem_cons_succ]
              refine if_yes (by kernel_rfl) ?_
              go_big_op
              (go_at_call 39; refine (HNX.out _ _ 2 hTc (by omega) (by omega)).mono ?_; rintro e w8 ⟨r8, rfl, h80, h81, t8, ht8, hTc', hg8⟩)
              refine hK.out _ _ ?_ (fun hHeld2 => ?_)
              · exact hHeld.trans ((HG1.out _ _ hg8).mono (fun i _ e => Or.inl e))
              clear hK K' hHeld
              have hHeld := hHeld2
              clear hHeld2
              (try simp only [List.getElem_toArray, List.getElem_cons_zero, List.getElem_cons_succ, Act.put, List.setIfInBounds_toArray, List.set_cons_zero, List.set_cons_succ])
              have OO := OO.onlyN hg8 (by omega)
              have hoc := own_onlyX hoc (HG1.out _ _ hg8) (fun i hi e => by have := (hoc.lt i hi).1; omega)
              have hTc := hTc'
              have o1 := OO.cell 1 _ rfl
              have h82 : r8 < 2 := by omega
              clear hTc' h81 hg8
              have w18 : IntKind.i64.wrap (1 + r8) = 1 + r8 := IntWalk.i64_in _ (by omega)
              refine wpAnyH_take (i := 4) (v := ?_) rfl (by kernel_rfl) (by kernel_rfl) (by kernel_rfl) (fun _ _ _ h => h) (Or.inl ⟨by rfl, ?_⟩) (by assumption) ?_
              rotate_left
              · intro wq hSw; clear hSw; go_simp; (try with_reducible rfl)
              (try simp only [List.getElem_toArray, List.getElem_cons_zero, List.getElem_cons_succ, Act.put, List.setIfInBounds_toArray, List.set_cons_zero, List.set_cons_succ])
              refine wpAnyH_ready (rs := [1, 5]) (by kernel_rfl) (by simp) ?_
              refine AllReadyH.cons (i := 1) (by rfl) ?_ (AllReadyH.cons (i := 5) (by rfl) ?_ (AllReadyH.nil))
              · skip
                intro K' hK
                simp only [List.getElem_toArray, List.getElem_cons_zero, List.getElem_cons_succ]
                refine if_yes (by kernel_rfl) ?_
                go_big_op
                refine hK.out _ _ ?_ (fun hHeld2 => ?_)
                · exact hHeld
                clear hK K' hHeld
                have hHeld := hHeld2
                clear hHeld2
                (try simp only [List.getElem_toArray, List.getElem_cons_zero, List.getElem_cons_succ, Act.put, List.setIfInBounds_toArray, List.set_cons_zero, List.set_cons_succ])
                refine wpAnyH_ready (rs := [5]) (by kernel_rfl) (by simp) ?_
                refine AllReadyH.cons (i := 5) (by rfl) ?_ (AllReadyH.nil)
                intro K' hK
                simp only [List.getElem_toArray, List.getElem_cons_zero, List.getElem_cons_succ]
                refine if_yes (by kernel_rfl) ?_
                go_big_op
                refine hK.out _ _ ?_ (fun hHeld2 => ?_)
                · exact hHeld.alloc _
                clear hK K' hHeld
                have hHeld := hHeld2
                clear hHeld2
                (try simp only [List.getElem_toArray, List.getElem_cons_zero, List.getElem_cons_succ, Act.put, List.setIfInBounds_toArray, List.set_cons_zero, List.set_cons_succ])
                have hfr := Reads.freshAs w8 #[.int .i64 (1 + r8)] 3 1 1 [.int .i64 (1 + r8)] rfl rfl (by decide)
                have hba : Below w8.heap.size w8 (w8.alloc (.cells #[.int .i64 (1 + r8)] 3)) := keep_alloc (Below.refl _ _) _
                have OO := OO.below hba
                have hoc := own_keep hoc hba
                have hTc := hTc.below hba
                have o1 := OO.cell 1 _ rfl
                clear hba
                refine wpAnyH_ready (rs := [6]) (by kernel_rfl) (by simp) ?_
                refine AllReadyH.cons (i := 6) (by rfl) ?_ (AllReadyH.nil)
                intro K' hK
                refine step_appB rfl _ _ _ (by rfl) tyInts (by rfl) hoc (by rfl) hfr (by simp [Value.oneCell']) q1' q2' (by have := OO.lt; simp at this ⊢; omega) ?_; intro v' w9 hown9 hg9 hbk9; obtain ⟨A9, c9, rfl, -⟩ := Reads.own hown9
                refine hK.out _ _ ?_ (fun hHeld2 => ?_)
                · exact hHeld.row hg9 (fun i hi _ => Or.inr (by have := (hoc.lt i hi).1; omega))
                clear hK K' hHeld
                have hHeld := hHeld2
                clear hHeld2
                (try simp only [List.getElem_toArray, List.getElem_cons_zero, List.getElem_cons_succ, Act.put, List.setIfInBounds_toArray, List.set_cons_zero, List.set_cons_succ])
                have OO := OO.onlyX (X := fun i => (Value.slice A' j e').ownBlock = some i) (fun e => by have := (hoc.lt _ e).1; omega) (OnlyX.grown hg9)
                have o1 := OO.cell 1 _ rfl
                have off := OO.free
                have hTc := tape_row hTc hg9 (fun e => by have := (hoc.lt _ e).1; omega)
                refine wpAnyH_take (i := 7) (v := ?_) rfl (by kernel_rfl) (by kernel_rfl) (by kernel_rfl) (fun _ _ _ h => h) (Or.inl ⟨by rfl, ?_⟩) (by assumption) ?_
                rotate_left
                · intro wq hSw; clear hSw; go_simp; (try with_reducible rfl)
                (try simp only [List.getElem_toArray, List.getElem_cons_zero, List.getElem_cons_succ, Act.put, List.setIfInBounds_toArray, List.set_cons_zero, List.set_cons_succ])
                refine wpAnyH_ready (rs := [8]) (by kernel_rfl) (by simp) ?_
                refine AllReadyH.cons (i := 8) (by rfl) ?_ (AllReadyH.nil)
                intro K' hK
                simp only [List.getElem_toArray, List.getElem_cons_zero, List.getElem_cons_succ]
                refine if_yes (by kernel_rfl) ?_
                go_big_op
                refine hK.out _ _ ?_ (fun hHeld2 => ?_)
                · exact hHeld.set (p := ⟨bf, 1, none⟩) (fun _ => Or.inr (Nat.le_refl _)) _
                clear hK K' hHeld
                have hHeld := hHeld2
                clear hHeld2
                (try simp only [List.getElem_toArray, List.getElem_cons_zero, List.getElem_cons_succ, Act.put, List.setIfInBounds_toArray, List.set_cons_zero, List.set_cons_succ])
                refine wpAnyH_done (by kernel_rfl) ?_ _
                refine NoPanic.normal ?_
                have hTf := hTc.setN' (p := ⟨bf, 1, none⟩) (by show g < bf; omega) (.slice A9 (j + 1) c9)
                have hOf := OO.set 1 (.slice A9 (j + 1) c9)
                have hwf := ownsRow_setCell_below hown9 (a := ⟨bf, 1, none⟩) (by show bf < bf + 1; omega) (.slice A9 (j + 1) c9)
                have hxf := hX7.trans hHeld
                clear o1 off OO hTc hoc hfr
                go_wp2_with fail
                go_roundw
                case rel =>
                  refine ⟨j + 1, z' - 1, A9, c9, xs ++ [1 + r8], t8, rfl, by omega, by have := HZJ.out; omega, by simp [HXL.out], ?_, ?_, hOf, hTf, by omega, hxf⟩
                  · intro q hq
                    rcases List.mem_append.1 hq with hq | hq
                    · exact HTY.out q hq
                    · simp only [List.mem_singleton] at hq; omega
                  · rw [List.flatMap_append]; exact hwf
                case measure => simp [intOf]; omega
              · skip
                intro K' hK
                simp only [List.getElem_toArray, List.getElem_cons_zero, List.getElem_cons_succ]
                refine if_yes (by kernel_rfl) ?_
                go_big_op
                refine hK.out _ _ ?_ (fun hHeld2 => ?_)
                · exact hHeld.alloc _
                clear hK K' hHeld
                have hHeld := hHeld2
                clear hHeld2
                (try simp only [List.getElem_toArray, List.getElem_cons_zero, List.getElem_cons_succ, Act.put, List.setIfInBounds_toArray, List.set_cons_zero, List.set_cons_succ])
                have hfr := Reads.freshAs w8 #[.int .i64 (1 + r8)] 3 1 1 [.int .i64 (1 + r8)] rfl rfl (by decide)
                have hba : Below w8.heap.size w8 (w8.alloc (.cells #[.int .i64 (1 + r8)] 3)) := keep_alloc (Below.refl _ _) _
                have OO := OO.below hba
                have hoc := own_keep hoc hba
                have hTc := hTc.below hba
                have o1 := OO.cell 1 _ rfl
                clear hba
                refine wpAnyH_ready (rs := [1]) (by kernel_rfl) (by simp) ?_
                refine AllReadyH.cons (i := 1) (by rfl) ?_ (AllReadyH.nil)
                intro K' hK
                simp only [List.getElem_toArray, List.getElem_cons_zero, List.getElem_cons_succ]
                refine if_yes (by kernel_rfl) ?_
                go_big_op
                refine hK.out _ _ ?_ (fun hHeld2 => ?_)
                · exact hHeld
                clear hK K' hHeld
                have hHeld := hHeld2
                clear hHeld2
                (try simp only [List.getElem_toArray, List.getElem_cons_zero, List.getElem_cons_succ, Act.put, List.setIfInBounds_toArray, List.set_cons_zero, List.set_cons_succ])
                refine wpAnyH_ready (rs := [6]) (by kernel_rfl) (by simp) ?_
                refine AllReadyH.cons (i := 6) (by rfl) ?_ (AllReadyH.nil)
                intro K' hK
                refine step_appB rfl _ _ _ (by rfl) tyInts (by rfl) hoc (by rfl) hfr (by simp [Value.oneCell']) q1' q2' (by have := OO.lt; simp at this ⊢; omega) ?_; intro v' w9 hown9 hg9 hbk9; obtain ⟨A9, c9, rfl, -⟩ := Reads.own hown9
                refine hK.out _ _ ?_ (fun hHeld2 => ?_)
                · exact hHeld.row hg9 (fun i hi _ => Or.inr (by have := (hoc.lt i hi).1; omega))
                clear hK K' hHeld
                have hHeld := hHeld2
                clear hHeld2
                (try simp only [List.getElem_toArray, List.getElem_cons_zero, List.getElem_cons_succ, Act.put, List.setIfInBounds_toArray, List.set_cons_zero, List.set_cons_succ])
                have OO := OO.onlyX (X := fun i => (Value.slice A' j e').ownBlock = some i) (fun e => by have := (hoc.lt _ e).1; omega) (OnlyX.grown hg9)
                have o1 := OO.cell 1 _ rfl
                have off := OO.free
                have hTc := tape_row hTc hg9 (fun e => by have := (hoc.lt _ e).1; omega)
                refine wpAnyH_take (i := 7) (v := ?_) rfl (by kernel_rfl) (by kernel_rfl) (by kernel_rfl) (fun _ _ _ h => h) (Or.inl ⟨by rfl, ?_⟩) (by assumption) ?_
                rotate_left
                · intro wq hSw; clear hSw; go_simp; (try with_reducible rfl)
                (try simp only [List.getElem_toArray, List.getElem_cons_zero, List.getElem_cons_succ, Act.put, List.setIfInBounds_toArray, List.set_cons_zero, List.set_cons_succ])
                refine wpAnyH_ready (rs := [8]) (by kernel_rfl) (by simp) ?_
                refine AllReadyH.cons (i := 8) (by rfl) ?_ (AllReadyH.nil)
                intro K' hK
                simp only [List.getElem_toArray, List.getElem_cons_zero, List.getElem_cons_succ]
                refine if_yes (by kernel_rfl) ?_
                go_big_op
                refine hK.out _ _ ?_ (fun hHeld2 => ?_)
                · exact hHeld.set (p := ⟨bf, 1, none⟩) (fun _ => Or.inr (Nat.le_refl _)) _
                clear hK K' hHeld
                have hHeld := hHeld2
                clear hHeld2
                (try simp only [List.getElem_toArray, List.getElem_cons_zero, List.getElem_cons_succ, Act.put, List.setIfInBounds_toArray, List.set_cons_zero, List.set_cons_succ])
                refine wpAnyH_done (by kernel_rfl) ?_ _
                refine NoPanic.normal ?_
                have hTf := hTc.setN' (p := ⟨bf, 1, none⟩) (by show g < bf; omega) (.slice A9 (j + 1) c9)
                have hOf := OO.set 1 (.slice A9 (j + 1) c9)
                have hwf := ownsRow_setCell_below hown9 (a := ⟨bf, 1, none⟩) (by show bf < bf + 1; omega) (.slice A9 (j + 1) c9)
                have hxf := hX7.trans hHeld
                clear o1 off OO hTc hoc hfr
                go_wp2_with fail
                go_roundw
                case rel =>
                  refine ⟨j + 1, z' - 1, A9, c9, xs ++ [1 + r8], t8, rfl, by omega, by have := HZJ.out; omega, by simp [HXL.out], ?_, ?_, hOf, hTf, by omega, hxf⟩
                  · intro q hq
                    rcases List.mem_append.1 hq with hq | hq
                    · exact HTY.out q hq
                    · simp only [List.mem_singleton] at hq; omega
                  · rw [List.flatMap_append]; exact hwf
                case measure => simp [intOf]; omega
          · have hz'0 : z' = 0 := by omega
            subst hz'0
            have hd' : decide ((0 : Int) < 0) = false := by simp
            clear hz'
            have hjj : 4 ≤ j ∧ j ≤ 7 := by omega
            obtain ⟨bL, cap, cur, hv, hge, hBL, hle, hcap, hcs, htk⟩ := own_block hown' (by omega) (by omega)
            injection hv with hv1 hv2 hv3
            subst hv1
            subst hv3
            have x1 := O'.cell 1 _ rfl
            obtain ⟨u3, hu3⟩ : ∃ u3, cur[3]? = some u3 := ⟨_, Array.getElem?_eq_getElem (by omega)⟩
            obtain ⟨u2, hu2⟩ : ∃ u2, cur[2]? = some u2 := ⟨_, Array.getElem?_eq_getElem (by omega)⟩
            have c3 : (World.drew wr).cell? ⟨bL, 3, none⟩ = some u3 := hBL.drew.cell 3 _ hu3
            have c2 : (World.drew wr).cell? ⟨bL, 2, none⟩ = some u2 := hBL.drew.cell 2 _ hu2
            have i3 : (3 : Int) < (j : Int) := by omega
            have i2 : (2 : Int) < (j : Int) := by omega
            have i3' : 3 < j := by omega
            have i2' : 2 < j := by omega
            have hLb : bL ≠ bf := by omega
            have BL : Blk (World.drew wr) bL 3 cur := hBL.drew
            have bfr := BL.free
            have c3w := hBL.cell 3 _ hu3
            have c2w := hBL.cell 2 _ hu2
            have bfw := hBL.free
            have HU3 := Lib.hid hu3
            have HU2 := Lib.hid hu2
            have HHX := Lib.hid (show OnlyX (fun i => i = g ∨ bf ≤ i) w5 (World.drew wr) from hX7.drew)
            clear hu3 hu2 hcs htk hzj
            go_upto_region 13 with fail
            refine wp_region_noPanic ?_
            refine wp_region_held_drew (S := fun u => u.cell? ⟨bf, 1, none⟩ = some (.slice (some ⟨bL, 0, none⟩) j e') ∧ OnlyX (fun i => bf ≤ i) (World.drew wr) u) (by kernel_rfl) (⟨x1, OnlyX.refl⟩) (fun hHeld => ?_)
            clear x1
            refine wpAnyH_take (i := 0) (v := ?_) rfl (by kernel_rfl) (by kernel_rfl) (by kernel_rfl) (fun _ _ _ h => h) (Or.inl ⟨by rfl, ?_⟩) (by assumption) ?_
            rotate_left
            · intro wq hSw; clear hSw; go_simp; (try with_reducible rfl)
            (try simp only [List.getElem_toArray, List.getElem_cons_zero, List.getElem_cons_succ, Act.put, List.setIfInBounds_toArray, List.set_cons_zero, List.set_cons_succ])
            refine wpAnyH_take (i := 1) (v := ?_) rfl (by kernel_rfl) (by kernel_rfl) (by kernel_rfl) (fun _ _ _ h => h) (Or.inl ⟨by rfl, ?_⟩) (by assumption) ?_
            rotate_left
            · intro wq hSw; have y1 := hSw.1; clear hSw; go_simp; (try with_reducible rfl)
            (try simp only [List.getElem_toArray, List.getElem_cons_zero, List.getElem_cons_succ, Act.put, List.setIfInBounds_toArray, List.set_cons_zero, List.set_cons_succ])
            refine wpAnyH_take (i := 2) (v := ?_) rfl (by kernel_rfl) (by kernel_rfl) (by kernel_rfl) (fun _ _ _ h => h) (Or.inl ⟨by rfl, ?_⟩) (by assumption) ?_
            rotate_left
            · intro wq hSw; clear hSw; go_simp; (try with_reducible rfl)
            (try simp only [List.getElem_toArray, List.getElem_cons_zero, List.getElem_cons_succ, Act.put, List.setIfInBounds_toArray, List.set_cons_zero, List.set_cons_succ])
            refine wpAnyH_take (i := 3) (v := ?_) rfl (by kernel_rfl) (by kernel_rfl) (by kernel_rfl) (fun _ _ _ h => h) (Or.inl ⟨by rfl, ?_⟩) (by assumption) ?_
            rotate_left
            · intro wq hSw; have y1 := hSw.1; clear hSw; go_simp; (try with_reducible rfl)
            (try simp only [List.getElem_toArray, List.getElem_cons_zero, List.getElem_cons_succ, Act.put, List.setIfInBounds_toArray, List.set_cons_zero, List.set_cons_succ])
            refine wpAnyH_take (i := 4) (v := ?_) rfl (by kernel_rfl) (by kernel_rfl) (by kernel_rfl) (fun _ _ _ h => h) (Or.inl ⟨by rfl, ?_⟩) (by assumption) ?_
            rotate_left
            · intro wq hSw; clear hSw; go_simp; (try with_reducible rfl)
            (try simp only [List.getElem_toArray, List.getElem_cons_zero, List.getElem_cons_succ, Act.put, List.setIfInBounds_toArray, List.set_cons_zero, List.set_cons_succ])
            refine wpAnyH_ready (rs := [5]) (by kernel_rfl) (by simp) ?_
            refine AllReadyH.cons (i := 5) (by rfl) ?_ (AllReadyH.nil)
            intro K' hK
            simp only [List.getElem_toArray, List.getElem_cons_zero, List.getElem_cons_succ]
            refine if_yes (by kernel_rfl) ?_
            go_big_op
            refine hK.out _ _ ?_ (fun hHeld2 => ?_)
            · exact ⟨cell_far (by show bL ≠ bf; exact hLb) hHeld.1, hHeld.2.set (p := ⟨bL, 3, none⟩) (fun _ => by show bf ≤ bL; omega) _⟩
            clear hK K' hHeld
            have hHeld := hHeld2
            clear hHeld2
            (try simp only [List.getElem_toArray, List.getElem_cons_zero, List.getElem_cons_succ, Act.put, List.setIfInBounds_toArray, List.set_cons_zero, List.set_cons_succ])
            have BL := BL.set 3 (.int .i64 1)
            have bfr := BL.free
            have c2 := BL.cell 2 u2 (by first | exact HU2.out | exact (Array.getElem?_setIfInBounds_ne (by omega)).trans HU2.out)
            refine wpAnyH_take (i := 6) (v := ?_) rfl (by kernel_rfl) (by kernel_rfl) (by kernel_rfl) (fun _ _ _ h => h) (Or.inl ⟨by rfl, ?_⟩) (by assumption) ?_
            rotate_left
            · intro wq hSw; clear hSw; go_simp; (try with_reducible rfl)
            (try simp only [List.getElem_toArray, List.getElem_cons_zero, List.getElem_cons_succ, Act.put, List.setIfInBounds_toArray, List.set_cons_zero, List.set_cons_succ])
            refine wpAnyH_ready (rs := [7]) (by kernel_rfl) (by simp) ?_
            refine AllReadyH.cons (i := 7) (by rfl) ?_ (AllReadyH.nil)
            intro K' hK
            simp only [List.getElem_toArray, List.getElem_cons_zero, List.getElem_cons_succ]
            refine if_yes (by kernel_rfl) ?_
            go_big_op
            refine hK.out _ _ ?_ (fun hHeld2 => ?_)
            · exact ⟨cell_far (by show bL ≠ bf; exact hLb) hHeld.1, hHeld.2.set (p := ⟨bL, 2, none⟩) (fun _ => by show bf ≤ bL; omega) _⟩
            clear hK K' hHeld
            have hHeld := hHeld2
            clear hHeld2
            (try simp only [List.getElem_toArray, List.getElem_cons_zero, List.getElem_cons_succ, Act.put, List.setIfInBounds_toArray, List.set_cons_zero, List.set_cons_succ])
            refine wpAnyH_done (by kernel_rfl) ?_ _
            refine NoPanic.normal ?_
            obtain ⟨hty1, hty3, hty2⟩ := set23 (xs := xs) (by have := HXL.out; omega) HTY.out
            have hrowL : (World.drew ((wr.setCell ⟨bL, 3, none⟩ (.int .i64 1)).setCell ⟨bL, 2, none⟩ (.int .i64 2))).ownsRow (bf + 1) 3 1 (.slice (some ⟨bL, 0, none⟩) j e') j (((xs.set 3 1).set 2 2).flatMap intCells) := by
              rw [← intCells_set, ← intCells_set]
              exact own_keep ((hown'.stored 3 (.int .i64 1)).1.stored 2 (.int .i64 2)).1 (Below.refl _ _).drew
            have hO10 : Blk (World.drew ((wr.setCell ⟨bL, 3, none⟩ (.int .i64 1)).setCell ⟨bL, 2, none⟩ (.int .i64 2))) bf 44 #[.int .i64 p5, .slice (some ⟨bL, 0, none⟩) j e', .int .i64 q5, .slice none 0 0] := ((O'.far (p := ⟨bL, 3, none⟩) (by show bf ≠ bL; omega) _).far (p := ⟨bL, 2, none⟩) (by show bf ≠ bL; omega) _).drew
            have hT10 : TapeAt (World.drew ((wr.setCell ⟨bL, 3, none⟩ (.int .i64 1)).setCell ⟨bL, 2, none⟩ (.int .i64 2))) g t7 := ((hT7.setN' (p := ⟨bL, 3, none⟩) (by show g < bL; omega) _).setN' (p := ⟨bL, 2, none⟩) (by show g < bL; omega) _).below (Below.refl _ _).drew
            have hX10 : OnlyX (fun i => i = g ∨ bf ≤ i) w5 (World.drew ((wr.setCell ⟨bL, 3, none⟩ (.int .i64 1)).setCell ⟨bL, 2, none⟩ (.int .i64 2))) := HHX.out.trans (hHeld.2.mono (fun i _ h => Or.inr h))
            obtain ⟨w10, hw10⟩ : ∃ w10, World.drew ((wr.setCell ⟨bL, 3, none⟩ (.int .i64 1)).setCell ⟨bL, 2, none⟩ (.int .i64 2)) = w10 := ⟨_, rfl⟩
            rw [hw10] at hrowL hO10 hT10 hX10 ⊢
            obtain ⟨xs2, hxs2⟩ : ∃ xs2, (xs.set 3 1).set 2 2 = xs2 := ⟨_, rfl⟩
            have hl2 : xs2.length = j := by rw [← hxs2]; simp [HXL.out]
            rw [hxs2] at hrowL hty1 hty2 hty3
            have hX4a : OnlyX (fun i => i = g ∨ bf ≤ i) w4 w10 := (HX5.out.mono (fun i _ h => Or.inr h)).trans hX10
            have hOWN := own_onlyX (HLAY.out w5 HX5.out).2.1 hX10 (fun i hi e => by have := HLOW.out i hi; have := ((HLAY.out w5 HX5.out).2.1.lt i hi).1; omega)
            have hROW : HeadRow w10 w.heap.size (Value.ownBlock (.slice A k e)) fcs fns := ⟨(HLAY.out w5 HX5.out).2.2.1.1, fun i x f h1 h2 => by
              obtain ⟨q1, q2, q3, q4, q5, q6, q7, q8, q9⟩ := (HLAY.out w5 HX5.out).2.2.1.2 i x f h1 h2
              exact ⟨q1, q2, q3.onlyX (fun b off hn e hb => by have := HLOWH.out i x f h1 h2 b off hn e; have := (q4 b off hn e).1; omega) hX10, q4, q5, q6, q7, q8, q9⟩⟩
            have hXW : OnlyX (fun i => i = g) w w10 := (HLAY.out w5 HX5.out).2.2.2.more hX10 (fun i hi h => by omega)
            have hHD : HeadAt w10 w.heap.size (Value.ownBlock (.slice A k e)) ⟨p5, some ⟨bL, 0, none⟩, j, e', q5, none, 0, 0⟩ ⟨p5, xs2, q5, []⟩ := by
              obtain ⟨A4, c4, e4, hr4⟩ := Reads.own hrowL
              injection e4 with x1 x2 x3
              subst x1 x3
              exact ⟨rfl, rfl, hr4, fun b off hn e => by cases e; exact ⟨by omega, fun e => by have := HLOW.out _ e.symm; omega⟩, ⟨HP0.out.1, HP0.out.2, HQ12.out, by dsimp only; omega, by dsimp only; omega, hty1, hty3, hty2⟩, rfl, rfl, rfl, rfl⟩
            have y0 := hO10.cell 0 _ rfl
            have y1 := hO10.cell 1 _ rfl
            have y2 := hO10.cell 2 _ rfl
            have y3 := hO10.cell 3 _ rfl
            have hfr := Reads.freshAs w10 #[.int .i64 p5, .slice (some ⟨bL, 0, none⟩) j e', .int .i64 q5, .slice none 0 0] 44 4 1 [.int .i64 p5, .slice (some ⟨bL, 0, none⟩) j e', .int .i64 q5, .slice none 0 0] rfl rfl (by decide)
            have hba : Below w10.heap.size w10 (w10.alloc (.cells #[.int .i64 p5, .slice (some ⟨bL, 0, none⟩) j e', .int .i64 q5, .slice none 0 0] 44)) := keep_alloc (Below.refl _ _) _
            have hOWN2 := own_keep hOWN hba
            have hROW2 := (hROW.snoc hHD).onlyX (X := fun _ => False) (OnlyX.belowU hba) (fun _ _ _ h => h)
            have hT11 := hT10.below hba
            have hX11 := hXW.keep hba
            have p1 : k + 1 ≤ maxLen := by unfold maxLen; omega
            have p2 : (k + 1) * 64 ≤ 140737488355328 := by omega
            have wzz : IntKind.i64.wrap (z - 1) = z - 1 := IntWalk.i64_in _ (by omega)
            have hwt : w.heap.size ≤ (w10.alloc (.cells #[.int .i64 p5, .slice (some ⟨bL, 0, none⟩) j e', .int .i64 q5, .slice none 0 0] 44)).heap.size := hX11.size
            have HROW2 := Lib.hid hROW2
            have HL2 := Lib.hid hl2
            clear hw10 hxs2 hl2 hROW hHD hROW2 hba hOWN hX10 hX4a hT10 hXW hO10 hrowL hty1 hty2 hty3 hHeld c2 c3 bfr BL c2w c3w bfw i2 i3 i2' i3'
            go_wp2_with (at_builtin; refine wpList_appB rfl _ _ _ (by rfl) tyRFns (by rfl) hOWN2 (by rfl) hfr (by simp [Value.oneCell']) p1 p2 hwt ?_; intro v' w12 hown12 hg12 hbk12; obtain ⟨A12, c12, rfl, -⟩ := Reads.own hown12)
            go_roundw
            case rel =>
              refine ⟨k + 1, z - 1, A12, c12, fcs ++ [⟨p5, some ⟨bL, 0, none⟩, j, e', q5, none, 0, 0⟩], fns ++ [⟨p5, xs2, q5, []⟩], t7, rfl, rfl, by omega, by have := HZK.out; omega, ?_, HROW2.out.grown hg12 hbk12, by simp [HFL.out], fun _ => HeadsOk.snoc HOK.out (fun h => HK0.out (by have h1 := snoc_len HROW2.out.1; have := HFL.out; omega)), by omega, tape_row hT11 hg12 (fun e => by have := (hOWN2.lt _ e).1; omega), hX11.row hg12 (fun i hi hl => by have := (hOWN2.lt i hi).1; omega)⟩
              rw [List.flatMap_append]
              exact hown12
            case measure => simp [intOf]; omega
    · have hz00 : z = 0 := by omega
      subst hz00
      have hd : decide ((0 : Int) < 0) = false := by simp
      have hkk : 1 ≤ k := by omega
      clear hzk hz
      go_wp2_with fail
      go_ret
      exact ⟨A, k, e, fcs, fns, tq, rfl, hown, HROW.out, HFL.out, HOK.out (by rw [← HROW.out.1, HFL.out]; exact hkk), hkk, hk3, by omega, hT2, hX⟩
end Go.Proofs.YtnnchinpmnpfiaaDoor

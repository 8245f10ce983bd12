/- The contracts of slices.Clone at three types, and of scope.clone. PRINTED BY A PROGRAM (mk_scope7.py). -/
import Derived.Test.YtmcdhpbkhchpeaaScope4
import Derived.Lib.Slices
import Derived.Deep.RegionHeld3
namespace Go.Proofs.Ytmcdhpbkhchpeaa
open Go.ChangeShapes Go.WideShapes Go.RowKit Words

theorem own_base {w : World} {base base' e s n : Nat} {v : Value} {xs : List Value} (h : w.ownsRow base e s v n xs) (hb : base' ≤ base) : w.ownsRow base' e s v n xs :=
  ⟨h.1, h.2.imp id fun ⟨g, cap, cur, he, hg, r⟩ => ⟨g, cap, cur, he, Nat.le_trans hb hg, r⟩⟩
theorem keep_belowB {B : Nat} {W0 w w1 : World} (hb : Below w.heap.size w w1) (h : Below B W0 w) (hB : B ≤ W0.heap.size) : Below B W0 w1 := h.trans (hb.mono (Nat.le_trans hB h.size))

theorem clone_slots (base : Nat) (A : Option Addr) (n c : Nat) (xs : List Value) (w : World) (hb0 : base ≤ w.heap.size) (h : Reads w w.heap.size 3 A n c xs) (h1 : ∀ u ∈ xs, u.oneCell' = true) (hn : n ≤ 1000000) :
    Calls Try.prog 49 #[.slice A n c] w fun e w' => ∃ A' c', e = .returned (.slice A' n c') ∧ w'.ownsRow base 62 3 (.slice A' n c') n xs ∧ Below w.heap.size w w' := by
  cases A with
  | none =>
    obtain rfl := h.none_ rfl
    have hle := h.le
    have hn0 : n = 0 := by omega
    subst hn0
    have hx : xs = [] := List.eq_nil_of_length_eq_zero (by simpa using h.len)
    subst hx
    have hnil := fun W => Lib.run_eql_slice_nil (P := Try.prog) W _ _ none 0 0 0 0 Try.underlying22
    go_enter Try.func49, Try.ntmps49
    go_wp2_with fail
    go_ret
    exact ⟨none, 0, rfl, World.ownsRow_nil _ _ _ _, Below.refl _ _⟩
  | some ad =>
    have hnil := fun W => Lib.run_eql_slice_nil (P := Try.prog) W _ _ (some ad) n c 0 0 Try.underlying22
    have hown := World.ownsRow_lit (e := 62) (size := 3) (base := w.heap.size) w #[] 0 (Nat.le_refl _) (by decide) rfl
    go_enter Try.func49, Try.ntmps49
    go_wp2_with (at_builtin; refine wpList_app rfl _ _ _ rfl tySl rfl hown rfl (h.alloc (Nat.le_refl _) _) h1 ?c1 ?c2 ?c3 ?_)
    case c1 => unfold maxLen; omega
    case c2 => omega
    intro v' w1 hown' hb'
    go_wp2
    go_ret
    obtain ⟨A', c', rfl, -⟩ := Reads.own hown'
    exact ⟨A', c', rfl, own_base hown' hb0, (keep_alloc (Below.refl _ _) _).trans hb'⟩

theorem clone_scopes (base : Nat) (A : Option Addr) (n c : Nat) (xs : List Value) (w : World) (hb0 : base ≤ w.heap.size) (h : Reads w w.heap.size 3 A n c xs) (h1 : ∀ u ∈ xs, u.oneCell' = true) (hn : n ≤ 1000000) :
    Calls Try.prog 50 #[.slice A n c] w fun e w' => ∃ A' c', e = .returned (.slice A' n c') ∧ w'.ownsRow base 59 3 (.slice A' n c') n xs ∧ Below w.heap.size w w' := by
  cases A with
  | none =>
    obtain rfl := h.none_ rfl
    have hle := h.le
    have hn0 : n = 0 := by omega
    subst hn0
    have hx : xs = [] := List.eq_nil_of_length_eq_zero (by simpa using h.len)
    subst hx
    have hnil := fun W => Lib.run_eql_slice_nil (P := Try.prog) W _ _ none 0 0 0 0 Try.underlying23
    go_enter Try.func50, Try.ntmps50
    go_wp2_with fail
    go_ret
    exact ⟨none, 0, rfl, World.ownsRow_nil _ _ _ _, Below.refl _ _⟩
  | some ad =>
    have hnil := fun W => Lib.run_eql_slice_nil (P := Try.prog) W _ _ (some ad) n c 0 0 Try.underlying23
    have hown := World.ownsRow_lit (e := 59) (size := 3) (base := w.heap.size) w #[] 0 (Nat.le_refl _) (by decide) rfl
    go_enter Try.func50, Try.ntmps50
    go_wp2_with (at_builtin; refine wpList_app rfl _ _ _ rfl tySc rfl hown rfl (h.alloc (Nat.le_refl _) _) h1 ?c1 ?c2 ?c3 ?_)
    case c1 => unfold maxLen; omega
    case c2 => omega
    intro v' w1 hown' hb'
    go_wp2
    go_ret
    obtain ⟨A', c', rfl, -⟩ := Reads.own hown'
    exact ⟨A', c', rfl, own_base hown' hb0, (keep_alloc (Below.refl _ _) _).trans hb'⟩

theorem clone_ints (base : Nat) (A : Option Addr) (n c : Nat) (xs : List Value) (w : World) (hb0 : base ≤ w.heap.size) (h : Reads w w.heap.size 1 A n c xs) (h1 : ∀ u ∈ xs, u.oneCell' = true) (hn : n ≤ 1000000) :
    Calls Try.prog 51 #[.slice A n c] w fun e w' => ∃ A' c', e = .returned (.slice A' n c') ∧ w'.ownsRow base 3 1 (.slice A' n c') n xs ∧ Below w.heap.size w w' := by
  cases A with
  | none =>
    obtain rfl := h.none_ rfl
    have hle := h.le
    have hn0 : n = 0 := by omega
    subst hn0
    have hx : xs = [] := List.eq_nil_of_length_eq_zero (by simpa using h.len)
    subst hx
    have hnil := fun W => Lib.run_eql_slice_nil (P := Try.prog) W _ _ none 0 0 0 0 Try.underlying24
    go_enter Try.func51, Try.ntmps51
    go_wp2_with fail
    go_ret
    exact ⟨none, 0, rfl, World.ownsRow_nil _ _ _ _, Below.refl _ _⟩
  | some ad =>
    have hnil := fun W => Lib.run_eql_slice_nil (P := Try.prog) W _ _ (some ad) n c 0 0 Try.underlying24
    have hown := World.ownsRow_lit (e := 3) (size := 1) (base := w.heap.size) w #[] 0 (Nat.le_refl _) (by decide) rfl
    go_enter Try.func51, Try.ntmps51
    go_wp2_with (at_builtin; refine wpList_app rfl _ _ _ rfl tyIn rfl hown rfl (h.alloc (Nat.le_refl _) _) h1 ?c1 ?c2 ?c3 ?_)
    case c1 => unfold maxLen; omega
    case c2 => omega
    intro v' w1 hown' hb'
    go_wp2
    go_ret
    obtain ⟨A', c', rfl, -⟩ := Reads.own hown'
    exact ⟨A', c', rfl, own_base hown' hb0, (keep_alloc (Below.refl _ _) _).trans hb'⟩

/-- local handles in memory of the call's own -/
structure LOwn (w : World) (base : Nat) (As : Option Addr) (ns cs : Nat) (Ap : Option Addr) (np cp : Nat) (Ai : Option Addr) (ni ci : Nat) (S : List Sl) (P : List Sc) (I : List Int) : Prop where
  s : w.ownsRow base 62 3 (.slice As ns cs) ns (S.flatMap slCells)
  p : w.ownsRow base 59 3 (.slice Ap np cp) np (P.flatMap scCells)
  i : w.ownsRow base 3 1 (.slice Ai ni ci) ni (I.flatMap intCells)
section
variable {w w' : World} {base : Nat} {As Ap Ai : Option Addr} {ns cs np cp ni ci : Nat} {S : List Sl} {P : List Sc} {I : List Int}
theorem reads_own {e s n c : Nat} {A : Option Addr} {xs : List Value} (h : w.ownsRow base e s (.slice A n c) n xs) : Reads w w.heap.size s A n c xs := by
  obtain ⟨A', c', e', hr⟩ := Reads.own h
  injection e' with x1 x2 x3
  subst x1 x3
  exact hr
theorem LOwn.rd (h : LOwn w base As ns cs Ap np cp Ai ni ci S P I) : LRd w As ns cs Ap np cp Ai ni ci S P I := ⟨reads_own h.s, reads_own h.p, reads_own h.i⟩
theorem LOwn.below (h : LOwn w base As ns cs Ap np cp Ai ni ci S P I) (hb : Below w.heap.size w w') : LOwn w' base As ns cs Ap np cp Ai ni ci S P I := ⟨own_keep h.s hb, own_keep h.p hb, own_keep h.i hb⟩
theorem LOwn.far (h : LOwn w base As ns cs Ap np cp Ai ni ci S P I) {a : Addr} (ha : a.block < base) (u : Value) : LOwn (w.setCell a u) base As ns cs Ap np cp Ai ni ci S P I :=
  ⟨ownsRow_setCell_below h.s ha u, ownsRow_setCell_below h.p ha u, ownsRow_setCell_below h.i ha u⟩
theorem LOwn.rebase (h : LOwn w base As ns cs Ap np cp Ai ni ci S P I) {base' : Nat} (hb : base' ≤ base) : LOwn w base' As ns cs Ap np cp Ai ni ci S P I := ⟨own_base h.s hb, own_base h.p hb, own_base h.i hb⟩
end
/-- local handles come back, in memory of the call's own -/
def RetLoc (w : World) (ns np ni : Nat) (S : List Sl) (P : List Sc) (I : List Int) (e : Ending) (w' : World) : Prop :=
  ∃ As cs Ap cp Ai ci, e = .returned (locV As ns cs Ap np cp Ai ni ci) ∧ LOwn w' w.heap.size As ns cs Ap np cp Ai ni ci S P I ∧ Below w.heap.size w w'

set_option linter.unusedSimpArgs false in
set_option maxHeartbeats 4000000 in
theorem clone_any (As : Option Addr) (ns cs : Nat) (Ap : Option Addr) (np cp : Nat) (Ai : Option Addr) (ni ci : Nat) (S : List Sl) (P : List Sc) (I : List Int) (w : World) (h : LRd w As ns cs Ap np cp Ai ni ci S P I)
    (hs : ns ≤ 1000000) (hp : np ≤ 1000000) (hi : ni ≤ 1000000) :
    Calls Try.prog 36 #[locV As ns cs Ap np cp Ai ni ci] w (RetLoc w ns np ni S P I) := by
  have hB : Below w.heap.size w ((w.alloc (.cells #[.slice As ns cs, .slice Ap np cp, .slice Ai ni ci] 26)).alloc (.cells #[.slice none 0 0, .slice none 0 0, .slice none 0 0] 26)) := keep_alloc (loc_alloc w _ _ _ _) _
  have B0 := (Blk.new w #[.slice As ns cs, .slice Ap np cp, .slice Ai ni ci] 26).alloc (.cells #[.slice none 0 0, .slice none 0 0, .slice none 0 0] 26)
  have R0 := Blk.newAt (w.alloc (.cells #[.slice As ns cs, .slice Ap np cp, .slice Ai ni ci] 26)) #[.slice none 0 0, .slice none 0 0, .slice none 0 0] 26 (w.heap.size + 1) (by simp)
  have hh := h.belowU hB
  have HS := Lib.hid hs
  have HP := Lib.hid hp
  have HI := Lib.hid hi
  clear hs hp hi h
  go_enter Try.func36, Try.ntmps36
  go_wp2_with fail
  obtain ⟨wx, hwx⟩ : ∃ wx, (w.alloc (.cells #[.slice As ns cs, .slice Ap np cp, .slice Ai ni ci] 26)).alloc (.cells #[.slice none 0 0, .slice none 0 0, .slice none 0 0] 26) = wx := ⟨_, rfl⟩
  have hsz : wx.heap.size = w.heap.size + 2 := by rw [← hwx]; simp
  rw [hwx] at hB B0 R0 hh ⊢
  clear hwx
  have HSZ := Lib.hid hsz
  have L0 : ∀ u, Below (w.heap.size + 1) wx u → u.cell? ⟨w.heap.size, 0, none⟩ = some (.slice As ns cs) := fun u hu => (B0.belowB hu (by omega)).cell 0 _ rfl
  have L1 : ∀ u, Below (w.heap.size + 1) wx u → u.cell? ⟨w.heap.size, 1, none⟩ = some (.slice Ap np cp) := fun u hu => (B0.belowB hu (by omega)).cell 1 _ rfl
  have L2 : ∀ u, Below (w.heap.size + 1) wx u → u.cell? ⟨w.heap.size, 2, none⟩ = some (.slice Ai ni ci) := fun u hu => (B0.belowB hu (by omega)).cell 2 _ rfl
  have hhd := hh.drew
  have R1 := R0.drew
  have hBB : w.heap.size + 1 ≤ wx.heap.size := by omega
  have hB1 := hB.drew
  clear hsz
  have HHD := Lib.hid hhd
  have HR1 := Lib.hid R1
  have HB1 := Lib.hid hB1
  clear hhd R1 hh R0 hB hB1 B0
  go_region_held3 (fun w' => Below (w.heap.size + 1) wx w')
    (first
      | exact (Below.refl _ _).drew
      | exact keep_belowB hbS (by assumption) hBB
      | exact keep_belowB hbP (by assumption) hBB
      | exact keep_belowB hbI (by assumption) hBB
      | exact (((by assumption : Below (w.heap.size + 1) wx _).setCell (by simp) _).setCell (by simp) _).setCell (by simp) _)
    (first
      | (go_at_call 49; refine (clone_slots (w.heap.size + 2) _ _ _ _ _ (by have := HSZ.out; have : wx.heap.size ≤ _ := Below.size (by assumption : Below (w.heap.size + 1) wx _); omega) HHD.out.s (slCells_one _) HS.out).mono ?_; rintro e wS ⟨AS, cS, rfl, ownS, hbS⟩; have RS : Blk wS (w.heap.size + 1) _ _ := HR1.out.below hbS; have rS0 := RS.cell 0 _ rfl; have rS1 := RS.cell 1 _ rfl; have rS2 := RS.cell 2 _ rfl; have fS := RS.free)
      | (go_at_call 50; refine (clone_scopes (w.heap.size + 2) _ _ _ _ _ (by have := HSZ.out; have : wx.heap.size ≤ _ := Below.size (by assumption : Below (w.heap.size + 1) wx _); omega) (HHD.out.p.belowU hbS) (scCells_one _) HP.out).mono ?_; rintro e wP ⟨AP, cP, rfl, ownP, hbP⟩; have RP : Blk wP (w.heap.size + 1) _ _ := RS.below hbP; have rP0 := RP.cell 0 _ rfl; have rP1 := RP.cell 1 _ rfl; have rP2 := RP.cell 2 _ rfl; have fP := RP.free)
      | (go_at_call 51; refine (clone_ints (w.heap.size + 2) _ _ _ _ _ (by have := HSZ.out; have : wx.heap.size ≤ _ := Below.size (by assumption : Below (w.heap.size + 1) wx _); omega) ((HHD.out.i.belowU hbS).belowU hbP) (inCells_one _) HI.out).mono ?_; rintro e wI ⟨AI, cI, rfl, ownI, hbI⟩; have RI : Blk wI (w.heap.size + 1) _ _ := RP.below hbI; have rI0 := RI.cell 0 _ rfl; have rI1 := RI.cell 1 _ rfl; have rI2 := RI.cell 2 _ rfl; have fI := RI.free))
  have hO : LOwn wI (w.heap.size + 2) AS ns cS AP np cP AI ni cI S P I := ⟨own_keep (own_keep ownS hbP) hbI, own_keep ownP hbI, ownI⟩
  have hO2 := (((hO.far (a := ⟨w.heap.size + 1, 0, none⟩) (by show w.heap.size + 1 < _; omega) (.slice AS ns cS)).far (a := ⟨w.heap.size + 1, 1, none⟩) (by show w.heap.size + 1 < _; omega) (.slice AP np cP)).far (a := ⟨w.heap.size + 1, 2, none⟩) (by show w.heap.size + 1 < _; omega) (.slice AI ni cI)).rebase (base' := w.heap.size) (by omega)
  have hBB2 : Below w.heap.size w (((wI.setCell ⟨w.heap.size + 1, 0, none⟩ (.slice AS ns cS)).setCell ⟨w.heap.size + 1, 1, none⟩ (.slice AP np cP)).setCell ⟨w.heap.size + 1, 2, none⟩ (.slice AI ni cI)) :=
    (((keep_below hbI (keep_below hbP (keep_below hbS HB1.out))).setCell (by simp) _).setCell (by simp) _).setCell (by simp) _
  have HO := Lib.hid hO2
  have HBB := Lib.hid hBB2
  clear hO hO2 hBB2 ownS ownP ownI
  have g2 := RI.set 0 (.slice AS ns cS) |>.set 1 (.slice AP np cP) |>.set 2 (.slice AI ni cI)
  have g20 := g2.cell 0 _ rfl
  have g21 := g2.cell 1 _ rfl
  have g22 := g2.cell 2 _ rfl
  clear RS rS0 rS1 rS2 fS RP rP0 rP1 rP2 fP RI rI0 rI1 rI2 fI g2
  go_wp2_with fail
  refine bodyPost_ret (v := locV AS ns cS AP np cP AI ni cI) (by simp [results, Try.results36, go_sem, g20, g21, g22]) rfl ?_
  exact ⟨_, _, _, _, _, _, rfl, HO.out, HBB.out⟩
end Go.Proofs.Ytmcdhpbkhchpeaa

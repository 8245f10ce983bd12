/- The contract of bent: a program with one thing changed. PRINTED BY A PROGRAM (mk_nbent.py). -/
import Derived.Test.YtpmdgmgcbminaaaNative
import Derived.Deep.RegionHeld3
namespace Go.Proofs.Ytpmdgmgcbminaaa
open Go.ChangeShapes Go.WideShapes Go.RowKit Words

structure BInv (w wq : World) (g : Int) (A : Option Addr) (N c : Nat) (L : List NI) (t : Nat) : Prop where
  C : Blk wq w.heap.size 27 #[.int .i64 g, .slice A N c]
  own : wq.ownsRow (w.heap.size + 3) 58 5 (.slice A N c) N (L.flatMap insCells)
  T : TapeAt wq (w.heap.size + 2) t
  R : Blk wq (w.heap.size + 1) 27 #[.int .i64 0, .slice none 0 0]
  B : Below w.heap.size w wq
  sz : w.heap.size + 3 ≤ wq.heap.size
section
variable {w wq : World} {g : Int} {t N c : Nat} {A : Option Addr} {L : List NI}
theorem BInv.drew (h : BInv w wq g A N c L t) : BInv w wq.drew g A N c L t :=
  ⟨h.C.drew, own_keep h.own (Below.refl _ _).drew, h.T.drew, h.R.drew, h.B.drew, h.sz⟩
theorem BInv.next {w' : World} {t' : Nat} (h : BInv w wq g A N c L t) (hG : wq.grownBy w' (some (w.heap.size + 2))) (hT : TapeAt w' (w.heap.size + 2) t') : BInv w w' g A N c L t' :=
  ⟨h.C.only hG (by omega), own_only h.own hG (by omega), hT, h.R.only hG (by omega), h.B.trans (below_only hG (by omega) (by have := h.sz; omega)), Nat.le_trans h.sz hG.size⟩
theorem BInv.set {gb : Nat} (h : BInv w wq g (some ⟨gb, 0, none⟩) N c L t) (hb : w.heap.size + 3 ≤ gb) {k j : Nat} {x y : NI} {u : Value} (hx : L[k]? = some x) (hj : j < 5) (hy : insCells y = (insCells x).set j u) :
    BInv w (wq.setCell ⟨gb, k * 5 + j, none⟩ u) g (some ⟨gb, 0, none⟩) N c (L.set k y) t :=
  ⟨h.C.far (by show w.heap.size ≠ gb; omega) u, by rw [← set_flat5 insCells 5 insCells_len L k j u x y hx hj hy]; exact (h.own.stored (k * 5 + j) u).1, h.T.set (by show w.heap.size + 2 < gb; omega) u,
    h.R.far (by show w.heap.size + 1 ≠ gb; omega) u, h.B.setCell (by show w.heap.size ≤ gb; omega) u, by have := h.sz; simpa using this⟩
/-- what is needed at the end -/
structure BFin (w wq : World) (g : Int) (A : Option Addr) (N c : Nat) (L : List NI) : Prop where
  C : Blk wq w.heap.size 27 #[.int .i64 g, .slice A N c]
  own : wq.ownsRow (w.heap.size + 3) 58 5 (.slice A N c) N (L.flatMap insCells)
  R : Blk wq (w.heap.size + 1) 27 #[.int .i64 0, .slice none 0 0]
  B : Below w.heap.size w wq
theorem BInv.fin (h : BInv w wq g A N c L t) : BFin w wq g A N c L := ⟨h.C, h.own, h.R, h.B⟩
theorem BInv.setC (h : BInv w wq g A N c L t) (g' : Int) : BFin w (wq.setCell ⟨w.heap.size, 0, none⟩ (.int .i64 g')) g' A N c L :=
  ⟨by have := h.C.set 0 (.int .i64 g'); exact this, ownsRow_setCell_below h.own (by show w.heap.size < _; omega) _,
    h.R.far (by show w.heap.size + 1 ≠ w.heap.size; omega) _, h.B.setCell (by show w.heap.size ≤ w.heap.size; omega) _⟩
end
theorem cell_only {w w' : World} {g : Nat} (h : w.grownBy w' (some g)) {a : Addr} {v : Value} (hv : w.cell? a = some v) (hne : a.block ≠ g) : w'.cell? a = some v :=
  (World.cell?_of_block (h.block a.block (World.block_lt_of_cell? w a hv) (by simpa using hne))).trans hv
/-- some program with as many instructions comes back -/
def RetBent (w : World) (n : Nat) (e : Ending) (w' : World) : Prop :=
  ∃ (g : Int) (l : List NI) (A : Option Addr) (c : Nat), e = .returned (codeV g A l.length c) ∧ Reads w' w'.heap.size 5 A l.length c (l.flatMap insCells) ∧ l.length = n ∧ Below w.heap.size w w'
theorem BFin.done {w wq : World} {g : Int} {N c : Nat} {A : Option Addr} {L : List NI} (h : BFin w wq g A N c L) (hL : L.length = N) :
    RetBent w N (.returned (codeV g A N c)) ((wq.setCell ⟨w.heap.size + 1, 0, none⟩ (.int .i64 g)).setCell ⟨w.heap.size + 1, 1, none⟩ (.slice A N c)) := by
  have ho := ownsRow_setCell_below (ownsRow_setCell_below h.own (a := ⟨w.heap.size + 1, 0, none⟩) (by show w.heap.size + 1 < _; omega) (.int .i64 g)) (a := ⟨w.heap.size + 1, 1, none⟩) (by show w.heap.size + 1 < _; omega) (.slice A N c)
  obtain ⟨A3, c3, e3, hr3⟩ := Reads.own ho
  injection e3 with x1 x2 x3
  subst x1 x3
  exact ⟨g, L, A, c, by rw [hL], by rw [hL]; exact hr3, hL, (h.B.setCell (by simp) _).setCell (by simp) _⟩

set_option linter.unusedSimpArgs false in
set_option maxRecDepth 100000 in
set_option maxHeartbeats 4000000 in
theorem bent_any (g : Int) (A : Option Addr) (n c : Nat) (l : List NI) (At : Option Addr) (m ct : Nat) (tl : List Int) (w : World) (h : Reads w w.heap.size 5 A n c (l.flatMap insCells)) (ht : Reads w w.heap.size 1 At m ct (tl.flatMap intCells)) (hn : n ≤ 1000000) :
    Calls Try.prog 21 #[codeV g A n c, .slice At m ct] w (RetBent w n) := by
  have hlen := h.length insCells_len (by omega)
  have HL := Lib.hid hlen
  clear hlen
  have hB0 : Below w.heap.size w (((w.alloc (.cells #[.int .i64 g, .slice A n c] 27)).alloc (.cells #[.int .i64 0, .slice none 0 0] 27)).alloc (.cells #[.slice At m ct, .int .i64 0] 63)) := keep_alloc (keep_alloc (code_alloc w _ g A n c) _) _
  have C0 := ((Blk.new w #[.int .i64 g, .slice A n c] 27).alloc (.cells #[.int .i64 0, .slice none 0 0] 27)).alloc (.cells #[.slice At m ct, .int .i64 0] 63)
  have R0 := (Blk.newAt (w.alloc (.cells #[.int .i64 g, .slice A n c] 27)) #[.int .i64 0, .slice none 0 0] 27 (w.heap.size + 1) (by simp)).alloc (.cells #[.slice At m ct, .int .i64 0] 63)
  have T0 := Blk.newAt ((w.alloc (.cells #[.int .i64 g, .slice A n c] 27)).alloc (.cells #[.int .i64 0, .slice none 0 0] 27)) #[.slice At m ct, .int .i64 0] 63 (w.heap.size + 2) (by simp)
  have h0 := h.belowU hB0
  have ht0 := ht.below hB0
  have hsz0 : (((w.alloc (.cells #[.int .i64 g, .slice A n c] 27)).alloc (.cells #[.int .i64 0, .slice none 0 0] 27)).alloc (.cells #[.slice At m ct, .int .i64 0] 63)).heap.size = w.heap.size + 3 := by simp
  have hown00 := World.ownsRow_lit (e := 58) (size := 5) (base := w.heap.size + 3) (((w.alloc (.cells #[.int .i64 g, .slice A n c] 27)).alloc (.cells #[.int .i64 0, .slice none 0 0] 27)).alloc (.cells #[.slice At m ct, .int .i64 0] 63)) #[] 0 (by simp) (by decide) rfl
  have hown0 := hown00
  rw [hsz0] at hown0
  clear hown00
  have h1 := h0.belowU (keep_alloc (Below.refl _ _) (.cells #[] 58))
  have q1' : 0 + n ≤ maxLen := by unfold maxLen; omega
  have q2' : (0 + n) * 40 ≤ 140737488355328 := by omega
  have c1 : ((((w.alloc (.cells #[.int .i64 g, .slice A n c] 27)).alloc (.cells #[.int .i64 0, .slice none 0 0] 27)).alloc (.cells #[.slice At m ct, .int .i64 0] 63)).alloc (.cells #[] 58)).cell? ⟨w.heap.size, 1, none⟩ = some (.slice A n c) := (C0.alloc _).cell 1 _ rfl
  clear h0 h ht
  by_cases hn0 : n = 0
  · have hn0' : ((n : Int) == 0) = true := by simp; omega
    clear hn0
    go_enter Try.func21, Try.ntmps21
    go_wp2_with (at_builtin; go_loud (refine wpList_app rfl _ _ _ rfl tyRIns rfl hown0 rfl h1 (insCells_one _) q1' q2' (by simp) ?_; intro v' w6 hown' hb'; obtain ⟨A2, c2, rfl, -⟩ := Reads.own hown'; have C6 := (C0.alloc (.cells #[] 58)).belowB hb' (by omega); have fo6 := C6.free; have p0 : w6.cell? ⟨w.heap.size, 0, none⟩ = some (.int .i64 g) := C6.cell 0 _ rfl; have p1 : w6.cell? ⟨w.heap.size, 1, none⟩ = some (.slice A n c) := C6.cell 1 _ rfl; have R6 := (R0.alloc (.cells #[] 58)).belowB hb' (by omega); have fr6 := R6.free; have r0 : w6.cell? ⟨w.heap.size + 1, 0, none⟩ = some (.int .i64 0) := R6.cell 0 _ rfl; have r1 : w6.cell? ⟨w.heap.size + 1, 1, none⟩ = some (.slice none 0 0) := R6.cell 1 _ rfl))
    rw [Nat.zero_add] at hown'
    have hI : BInv w (w6.setCell ⟨w.heap.size, 1, none⟩ (.slice A2 n c2)) g A2 n c2 l 0 :=
      ⟨by have := C6.set 1 (.slice A2 n c2); exact this, ownsRow_setCell_below hown' (by show w.heap.size < _; omega) _,
        ⟨At, m, ct, tl, ((T0.alloc (.cells #[] 58)).belowB hb' (by omega)).far (by show w.heap.size + 2 ≠ w.heap.size; omega) _, (((ht0.alloc (by rw [hsz0]; omega) (.cells #[] 58)).keep fun b o hp => hb'.cell (p := ⟨b, o, none⟩) (by show b < _; omega)).setCell (by show w.heap.size ≤ w.heap.size; omega) _).more (by omega)⟩,
        R6.far (by show w.heap.size + 1 ≠ w.heap.size; omega) _, ((keep_alloc hB0 (.cells #[] 58)).trans (hb'.mono (by omega))).setCell (by show w.heap.size ≤ w.heap.size; omega) _, by have := hb'.size; simp at this; simp; omega⟩
    have HI := Lib.hid (hI.fin.done HL.out)
    clear hI
    refine bodyPost_ret (v := codeV g A2 n c2) (by simp [results, Try.results21, go_sem, r0, r1]) rfl ?_
    exact HI.out
  have hn0' : ((n : Int) == 0) = false := by simp; omega
  go_enter Try.func21, Try.ntmps21
  go_wp2_with (at_builtin; go_loud (refine wpList_app rfl _ _ _ rfl tyRIns rfl hown0 rfl h1 (insCells_one _) q1' q2' (by simp) ?_; intro v' w6 hown' hb'; obtain ⟨A2, c2, rfl, -⟩ := Reads.own hown'; have C6 := (C0.alloc (.cells #[] 58)).belowB hb' (by omega); have fo6 := C6.free; have p0 : w6.cell? ⟨w.heap.size, 0, none⟩ = some (.int .i64 g) := C6.cell 0 _ rfl; have p1 : w6.cell? ⟨w.heap.size, 1, none⟩ = some (.slice A n c) := C6.cell 1 _ rfl; have R6 := (R0.alloc (.cells #[] 58)).belowB hb' (by omega); have fr6 := R6.free; have r0 : w6.cell? ⟨w.heap.size + 1, 0, none⟩ = some (.int .i64 0) := R6.cell 0 _ rfl; have r1 : w6.cell? ⟨w.heap.size + 1, 1, none⟩ = some (.slice none 0 0) := R6.cell 1 _ rfl))
  rw [Nat.zero_add] at hown'
  have hI : BInv w (w6.setCell ⟨w.heap.size, 1, none⟩ (.slice A2 n c2)) g A2 n c2 l 0 :=
    ⟨by have := C6.set 1 (.slice A2 n c2); exact this, ownsRow_setCell_below hown' (by show w.heap.size < _; omega) _,
      ⟨At, m, ct, tl, ((T0.alloc (.cells #[] 58)).belowB hb' (by omega)).far (by show w.heap.size + 2 ≠ w.heap.size; omega) _, (((ht0.alloc (by rw [hsz0]; omega) (.cells #[] 58)).keep fun b o hp => hb'.cell (p := ⟨b, o, none⟩) (by show b < _; omega)).setCell (by show w.heap.size ≤ w.heap.size; omega) _).more (by omega)⟩,
      R6.far (by show w.heap.size + 1 ≠ w.heap.size; omega) _, ((keep_alloc hB0 (.cells #[] 58)).trans (hb'.mono (by omega))).setCell (by show w.heap.size ≤ w.heap.size; omega) _, by have := hb'.size; simp at this; simp; omega⟩
  obtain ⟨w7, hw7⟩ : ∃ w7, w6.setCell ⟨w.heap.size, 1, none⟩ (.slice A2 n c2) = w7 := ⟨_, rfl⟩
  rw [hw7] at hI ⊢
  clear hw7 hown' hb' C6 fo6 p0 p1 R6 fr6 r0 r1 hB0 C0 R0 T0 ht0 hsz0 hown0 h1 q1' q2' c1
  have C := hI.C
  have p0 : w7.cell? ⟨w.heap.size, 0, none⟩ = some (.int .i64 g) := C.cell 0 _ rfl
  have p1 : w7.cell? ⟨w.heap.size, 1, none⟩ = some (.slice A2 n c2) := C.cell 1 _ rfl
  have R := hI.R
  have fr := R.free
  have r0 : w7.cell? ⟨w.heap.size + 1, 0, none⟩ = some (.int .i64 0) := R.cell 0 _ rfl
  have r1 : w7.cell? ⟨w.heap.size + 1, 1, none⟩ = some (.slice none 0 0) := R.cell 1 _ rfl
  rcases hI.own.2 with ⟨-, hz⟩ | ⟨gb, cap, cu, hgb, hbg, -, -, -, -, -⟩
  · exfalso; omega
  simp only [Value.slice.injEq] at hgb
  obtain ⟨rfl, -, rfl⟩ := hgb
  have hIT := hI.T.drew
  have HI := Lib.hid hI
  have HIT := Lib.hid hIT
  clear r0 r1 fr R C hI hIT hn0'
  go_region_held3 (fun w' => w'.cell? ⟨w.heap.size, 1, none⟩ = some (.slice (some ⟨gb, 0, none⟩) n c2))
    (first | (go_split_ands; refine cell_only hG8 ?_ (by show w.heap.size ≠ w.heap.size + 2; omega); assumption) | go_keep)
    ((go_at_call 27; refine (next_any (w.heap.size + 2) 0 n _ HIT.out (by omega) (by omega)).mono ?_; rintro e w8 ⟨r, rfl, hr0, hr1, t8, ht8, hT8, hG8⟩; obtain ⟨k, rfl⟩ := Int.eq_ofNat_of_zero_le hr0; have hk1 : (k : Int) < (n : Int) := by omega))
  have hk : k < n := by omega
  have hI8 := HI.out.drew.next hG8 hT8
  obtain ⟨x, hx⟩ : ∃ x, l[k]? = some x := ⟨_, List.getElem?_eq_getElem (by rw [HL.out]; exact hk)⟩
  have HX := Lib.hid hx
  clear p0 p1 hx hk1 hr1
  go_wp2_with fail
  have hsz8 := hI8.sz
  refine (next_any (w.heap.size + 2) t8 6 _ hI8.T (by omega) (by omega)).mono ?_
  rintro e w9 ⟨r9, rfl, hr90, hr91, t9, ht9, hT9, hG9⟩
  have hI9 := hI8.next hG9 hT9
  have ht91 : t9 ≤ 2 := by omega
  clear hI8 hT8 hG8 hG9 hT9 hsz8
  have hr9 : r9 = 0 ∨ r9 = 1 ∨ r9 = 2 ∨ r9 = 3 ∨ r9 = 4 ∨ r9 = 5 := by omega
  clear hr90 hr91
  obtain ⟨op, a, b, cc, kk⟩ := x
  rcases hr9 with rfl | rfl | rfl | rfl | rfl | rfl
  · go_wp2_with fail
    refine (next_any (w.heap.size + 2) t9 19 _ hI9.T (by omega) (by omega)).mono ?_
    rintro e w10 ⟨r10, rfl, hr0', hr1', t10, ht10, hT10, hG10⟩
    have hI10 := hI9.next hG10 hT10
    clear hI9 hG10 hT10
    have own := hI10.own
    have dj : w10.cell? ⟨gb, k * 5 + 0, none⟩ = some (.int .i64 op) := (own.cellAt (k * 5 + 0) (by omega)).trans (by rw [flat_at insCells 5 insCells_len _ k 0 (by omega) _ HX.out]; rfl)
    have fj := own.frozenAt (k * 5 + 0)
    have hI11 := hI10.set hbg (j := 0) (u := .int .i64 r10) (y := ⟨r10, a, b, cc, kk⟩) HX.out (by omega) rfl
    have C := hI11.C
    have p0 : (w10.setCell ⟨gb, k * 5 + 0, none⟩ (.int .i64 r10)).cell? ⟨w.heap.size, 0, none⟩ = some (.int .i64 g) := C.cell 0 _ rfl
    have p1 : (w10.setCell ⟨gb, k * 5 + 0, none⟩ (.int .i64 r10)).cell? ⟨w.heap.size, 1, none⟩ = some (.slice (some ⟨gb, 0, none⟩) n c2) := C.cell 1 _ rfl
    have R := hI11.R
    have fr := R.free
    have r0 : (w10.setCell ⟨gb, k * 5 + 0, none⟩ (.int .i64 r10)).cell? ⟨w.heap.size + 1, 0, none⟩ = some (.int .i64 0) := R.cell 0 _ rfl
    have r1 : (w10.setCell ⟨gb, k * 5 + 0, none⟩ (.int .i64 r10)).cell? ⟨w.heap.size + 1, 1, none⟩ = some (.slice none 0 0) := R.cell 1 _ rfl
    have HI11 := Lib.hid (hI11.fin.done (by rw [List.length_set]; exact HL.out))
    clear C R hI11 hI10 own
    rw [Nat.add_zero] at dj fj p0 p1 r0 r1 HI11
    simp only [Nat.add_zero] at fr
    go_wp2_with fail
    refine bodyPost_ret (v := codeV g (some ⟨gb, 0, none⟩) n c2) (by simp [results, Try.results21, go_sem, r0, r1]) rfl ?_
    exact HI11.out
  · go_wp2_with fail
    refine (next_any (w.heap.size + 2) t9 10 _ hI9.T (by omega) (by omega)).mono ?_
    rintro e w10 ⟨r10, rfl, hr0', hr1', t10, ht10, hT10, hG10⟩
    have hI10 := hI9.next hG10 hT10
    clear hI9 hG10 hT10
    have own := hI10.own
    have dj : w10.cell? ⟨gb, k * 5 + 1, none⟩ = some (.int .i64 a) := (own.cellAt (k * 5 + 1) (by omega)).trans (by rw [flat_at insCells 5 insCells_len _ k 1 (by omega) _ HX.out]; rfl)
    have fj := own.frozenAt (k * 5 + 1)
    have hwk : IntKind.i64.wrap (r10 - 1) = r10 - 1 := IntWalk.i64_in _ (by omega)
    have hI11 := hI10.set hbg (j := 1) (u := .int .i64 (r10 - 1)) (y := ⟨op, r10 - 1, b, cc, kk⟩) HX.out (by omega) rfl
    have C := hI11.C
    have p0 : (w10.setCell ⟨gb, k * 5 + 1, none⟩ (.int .i64 (r10 - 1))).cell? ⟨w.heap.size, 0, none⟩ = some (.int .i64 g) := C.cell 0 _ rfl
    have p1 : (w10.setCell ⟨gb, k * 5 + 1, none⟩ (.int .i64 (r10 - 1))).cell? ⟨w.heap.size, 1, none⟩ = some (.slice (some ⟨gb, 0, none⟩) n c2) := C.cell 1 _ rfl
    have R := hI11.R
    have fr := R.free
    have r0 : (w10.setCell ⟨gb, k * 5 + 1, none⟩ (.int .i64 (r10 - 1))).cell? ⟨w.heap.size + 1, 0, none⟩ = some (.int .i64 0) := R.cell 0 _ rfl
    have r1 : (w10.setCell ⟨gb, k * 5 + 1, none⟩ (.int .i64 (r10 - 1))).cell? ⟨w.heap.size + 1, 1, none⟩ = some (.slice none 0 0) := R.cell 1 _ rfl
    have HI11 := Lib.hid (hI11.fin.done (by rw [List.length_set]; exact HL.out))
    clear C R hI11 hI10 own
    go_wp2_with fail
    refine bodyPost_ret (v := codeV g (some ⟨gb, 0, none⟩) n c2) (by simp [results, Try.results21, go_sem, r0, r1]) rfl ?_
    exact HI11.out
  · go_wp2_with fail
    refine (next_any (w.heap.size + 2) t9 260 _ hI9.T (by omega) (by omega)).mono ?_
    rintro e w10 ⟨r10, rfl, hr0', hr1', t10, ht10, hT10, hG10⟩
    have hI10 := hI9.next hG10 hT10
    clear hI9 hG10 hT10
    have own := hI10.own
    have dj : w10.cell? ⟨gb, k * 5 + 2, none⟩ = some (.int .i64 b) := (own.cellAt (k * 5 + 2) (by omega)).trans (by rw [flat_at insCells 5 insCells_len _ k 2 (by omega) _ HX.out]; rfl)
    have fj := own.frozenAt (k * 5 + 2)
    have hI11 := hI10.set hbg (j := 2) (u := .int .i64 r10) (y := ⟨op, a, r10, cc, kk⟩) HX.out (by omega) rfl
    have C := hI11.C
    have p0 : (w10.setCell ⟨gb, k * 5 + 2, none⟩ (.int .i64 r10)).cell? ⟨w.heap.size, 0, none⟩ = some (.int .i64 g) := C.cell 0 _ rfl
    have p1 : (w10.setCell ⟨gb, k * 5 + 2, none⟩ (.int .i64 r10)).cell? ⟨w.heap.size, 1, none⟩ = some (.slice (some ⟨gb, 0, none⟩) n c2) := C.cell 1 _ rfl
    have R := hI11.R
    have fr := R.free
    have r0 : (w10.setCell ⟨gb, k * 5 + 2, none⟩ (.int .i64 r10)).cell? ⟨w.heap.size + 1, 0, none⟩ = some (.int .i64 0) := R.cell 0 _ rfl
    have r1 : (w10.setCell ⟨gb, k * 5 + 2, none⟩ (.int .i64 r10)).cell? ⟨w.heap.size + 1, 1, none⟩ = some (.slice none 0 0) := R.cell 1 _ rfl
    have HI11 := Lib.hid (hI11.fin.done (by rw [List.length_set]; exact HL.out))
    clear C R hI11 hI10 own
    go_wp2_with fail
    refine bodyPost_ret (v := codeV g (some ⟨gb, 0, none⟩) n c2) (by simp [results, Try.results21, go_sem, r0, r1]) rfl ?_
    exact HI11.out
  · go_wp2_with fail
    refine (next_any (w.heap.size + 2) t9 9 _ hI9.T (by omega) (by omega)).mono ?_
    rintro e w10 ⟨r10, rfl, hr0', hr1', t10, ht10, hT10, hG10⟩
    have hI10 := hI9.next hG10 hT10
    clear hI9 hG10 hT10
    have own := hI10.own
    have dj : w10.cell? ⟨gb, k * 5 + 3, none⟩ = some (.int .i64 cc) := (own.cellAt (k * 5 + 3) (by omega)).trans (by rw [flat_at insCells 5 insCells_len _ k 3 (by omega) _ HX.out]; rfl)
    have fj := own.frozenAt (k * 5 + 3)
    have hI11 := hI10.set hbg (j := 3) (u := .int .i64 r10) (y := ⟨op, a, b, r10, kk⟩) HX.out (by omega) rfl
    have C := hI11.C
    have p0 : (w10.setCell ⟨gb, k * 5 + 3, none⟩ (.int .i64 r10)).cell? ⟨w.heap.size, 0, none⟩ = some (.int .i64 g) := C.cell 0 _ rfl
    have p1 : (w10.setCell ⟨gb, k * 5 + 3, none⟩ (.int .i64 r10)).cell? ⟨w.heap.size, 1, none⟩ = some (.slice (some ⟨gb, 0, none⟩) n c2) := C.cell 1 _ rfl
    have R := hI11.R
    have fr := R.free
    have r0 : (w10.setCell ⟨gb, k * 5 + 3, none⟩ (.int .i64 r10)).cell? ⟨w.heap.size + 1, 0, none⟩ = some (.int .i64 0) := R.cell 0 _ rfl
    have r1 : (w10.setCell ⟨gb, k * 5 + 3, none⟩ (.int .i64 r10)).cell? ⟨w.heap.size + 1, 1, none⟩ = some (.slice none 0 0) := R.cell 1 _ rfl
    have HI11 := Lib.hid (hI11.fin.done (by rw [List.length_set]; exact HL.out))
    clear C R hI11 hI10 own
    go_wp2_with fail
    refine bodyPost_ret (v := codeV g (some ⟨gb, 0, none⟩) n c2) (by simp [results, Try.results21, go_sem, r0, r1]) rfl ?_
    exact HI11.out
  · go_wp2_with fail
    refine (next_any (w.heap.size + 2) t9 300 _ hI9.T (by omega) (by omega)).mono ?_
    rintro e w10 ⟨r10, rfl, hr0', hr1', t10, ht10, hT10, hG10⟩
    have hI10 := hI9.next hG10 hT10
    clear hI9 hG10 hT10
    have own := hI10.own
    have dj : w10.cell? ⟨gb, k * 5 + 4, none⟩ = some (.int .u64 (U kk)) := (own.cellAt (k * 5 + 4) (by omega)).trans (by rw [flat_at insCells 5 insCells_len _ k 4 (by omega) _ HX.out]; rfl)
    have fj := own.frozenAt (k * 5 + 4)
    have hwk : IntKind.u64.wrap r10 = U (BitVec.ofInt 64 r10) := wrap_ofInt r10
    have hI11 := hI10.set hbg (j := 4) (u := .int .u64 (U (BitVec.ofInt 64 r10))) (y := ⟨op, a, b, cc, BitVec.ofInt 64 r10⟩) HX.out (by omega) rfl
    have C := hI11.C
    have p0 : (w10.setCell ⟨gb, k * 5 + 4, none⟩ (.int .u64 (U (BitVec.ofInt 64 r10)))).cell? ⟨w.heap.size, 0, none⟩ = some (.int .i64 g) := C.cell 0 _ rfl
    have p1 : (w10.setCell ⟨gb, k * 5 + 4, none⟩ (.int .u64 (U (BitVec.ofInt 64 r10)))).cell? ⟨w.heap.size, 1, none⟩ = some (.slice (some ⟨gb, 0, none⟩) n c2) := C.cell 1 _ rfl
    have R := hI11.R
    have fr := R.free
    have r0 : (w10.setCell ⟨gb, k * 5 + 4, none⟩ (.int .u64 (U (BitVec.ofInt 64 r10)))).cell? ⟨w.heap.size + 1, 0, none⟩ = some (.int .i64 0) := R.cell 0 _ rfl
    have r1 : (w10.setCell ⟨gb, k * 5 + 4, none⟩ (.int .u64 (U (BitVec.ofInt 64 r10)))).cell? ⟨w.heap.size + 1, 1, none⟩ = some (.slice none 0 0) := R.cell 1 _ rfl
    have HI11 := Lib.hid (hI11.fin.done (by rw [List.length_set]; exact HL.out))
    clear C R hI11 hI10 own
    go_wp2_with fail
    refine bodyPost_ret (v := codeV g (some ⟨gb, 0, none⟩) n c2) (by simp [results, Try.results21, go_sem, r0, r1]) rfl ?_
    exact HI11.out
  · go_wp2_with fail
    refine (next_any (w.heap.size + 2) t9 5 _ hI9.T (by omega) (by omega)).mono ?_
    rintro e w10 ⟨r10, rfl, hr0', hr1', t10, ht10, hT10, hG10⟩
    have hI10 := hI9.next hG10 hT10
    clear hI9 hG10 hT10
    have C := hI10.C
    have f0 := C.free
    have s0 : w10.cell? ⟨w.heap.size, 0, none⟩ = some (.int .i64 g) := C.cell 0 _ rfl
    have s1 : w10.cell? ⟨w.heap.size, 1, none⟩ = some (.slice (some ⟨gb, 0, none⟩) n c2) := C.cell 1 _ rfl
    have hI11 := hI10.setC r10
    have R := hI11.R
    have fr := R.free
    have r0 : (w10.setCell ⟨w.heap.size, 0, none⟩ (.int .i64 r10)).cell? ⟨w.heap.size + 1, 0, none⟩ = some (.int .i64 0) := R.cell 0 _ rfl
    have r1 : (w10.setCell ⟨w.heap.size, 0, none⟩ (.int .i64 r10)).cell? ⟨w.heap.size + 1, 1, none⟩ = some (.slice none 0 0) := R.cell 1 _ rfl
    have HI11 := Lib.hid (hI11.done HL.out)
    clear C R hI11 hI10
    go_wp2_with fail
    refine bodyPost_ret (v := codeV r10 (some ⟨gb, 0, none⟩) n c2) (by simp [results, Try.results21, go_sem, r0, r1]) rfl ?_
    exact HI11.out
end Go.Proofs.Ytpmdgmgcbminaaa

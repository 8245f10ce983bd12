/- A program as an argument; functions given to the program under test, one after the other. -/
import Derived.Test.YtnnchinpmnpfiaaDoorKF
import Derived.WalkKit
namespace Go.Proofs.YtnnchinpmnpfiaaDoor
open Go.ChangeShapes Go.WideShapes Go.RowKit Words

theorem u32_range {n : Int} (h : (Lit.int .u32 n).wf = true) : 0 ≤ n ∧ n ≤ 4294967295 := by
  simp [Lit.wf, IntKind.min, IntKind.max, IntKind.signed, IntKind.bits] at h
  omega
section
variable {H : Type} {enc : TypeId × Value → H} {w : World} {base b : Nat} {spare : Nat → Bool} {held : Bool}
theorem cells_hd {n : Nat} {cs : List Value} {y : DataW H × List MemPlace} (h : DataW.trod enc Tryd.prog w base spare held n 73 cs = some y) : ∃ x : HD, cs = hdCells x ∧ x.ok := by
  obtain ⟨hl, hf⟩ := cells_struct Tryd.underlying73 (by kernel_rfl) (by kernel_rfl) h
  obtain ⟨v0, m0, z0, e0, t0⟩ := hf 0 _ rfl
  obtain ⟨v1, m1, z1, e1, t1⟩ := hf 1 _ rfl
  obtain ⟨v2, m2, z2, e2, t2⟩ := hf 2 _ rfl
  obtain ⟨a, ha, hra⟩ := cells_i64 Tryd.underlying3 t0
  obtain ⟨b, hb, hrb⟩ := cells_i64 Tryd.underlying3 t1
  obtain ⟨c, hc, _, hrc⟩ := DataW.trod_int Tryd.underlying71 t2
  simp only [List.cons.injEq, and_true] at ha hb hc
  subst ha hb hc
  exact ⟨⟨a, b, c⟩, list3 hl e0 e1 e2, hra, hrb, u32_range hrc⟩
/-- a list of what is so of each element -/
theorem list_of_each {α β : Type} {q : α → β → Prop} : ∀ {xs : List α}, (∀ x ∈ xs, ∃ f, q x f) → ∃ fs : List β, xs.length = fs.length ∧ ∀ (i : Nat) x f, xs[i]? = some x → fs[i]? = some f → q x f
  | [], _ => ⟨[], rfl, fun i x f h => by simp at h⟩
  | a :: r, h => by
    obtain ⟨f, hf⟩ := h a (List.mem_cons_self ..)
    obtain ⟨fs, hl, hq⟩ := list_of_each (xs := r) fun x hx => h x (List.mem_cons_of_mem _ hx)
    refine ⟨f :: fs, by simp [hl], fun i x g h1 h2 => ?_⟩
    cases i with
    | zero => cases h1; cases h2; exact hf
    | succ i => exact hq i x g (by simpa using h1) (by simpa using h2)
/-- what is so of a function whatever its size -/
structure Fn.okI (f : Fn) : Prop where
  p : I64 f.p
  r : I64 f.r
  ins : ∀ x ∈ f.ins, x.ok64
structure Prg.okI (P : Prg) : Prop where
  shs : ∀ h ∈ P.shs, h.ok
  fns : ∀ f ∈ P.fns, f.okI
set_option maxRecDepth 100000 in
theorem open_prg {v : Value} {d : DataW H} {ps : List MemPlace} (hv : Value.okWide Tryd.prog w .any b 26 v) (h : DataW.Trod enc Tryd.prog w base spare held 26 v d ps) :
    ∃ S ns cs F nf cf N nn cn P fcs, v = prV S ns cs F nf cf N nn cn ∧ PrAt w S ns cs F nf cf N nn cn P fcs ∧ P.okI := by
  obtain ⟨cs, rfl, _⟩ := okWide_struct Tryd.underlying26 hv
  obtain ⟨fuel, hf'⟩ := h
  obtain ⟨hl, hf⟩ := cells_struct Tryd.underlying26 (by kernel_rfl) (by kernel_rfl) hf'
  obtain ⟨v0, m0, z0, e0, t0⟩ := hf 0 _ rfl
  obtain ⟨v1, m1, z1, e1, t1⟩ := hf 1 _ rfl
  obtain ⟨v2, m2, z2, e2, t2⟩ := hf 2 _ rfl
  obtain ⟨S, ns, c0, shs, he0, h0, g0⟩ := cells_seq hdCells HD.ok Tryd.underlying22 (by kernel_rfl) (by omega) (fun n cs' y hy => cells_hd hy) hdCells_len t0
  obtain ⟨F, nf, cf, fcs, he1, h1, g1⟩ := cells_seq fcCells (fun x => ∃ f : Fn, FnAt w x f ∧ f.okI) Tryd.underlying23 (by kernel_rfl) (by omega) (fun n cs' y hy => by
    obtain ⟨p, A, k, c, r, B, m, d, locs, ins, he, rp, rr, hA, hI, gl, gi⟩ := cells_fn hy
    exact ⟨⟨p, A, k, c, r, B, m, d⟩, he, ⟨p, locs, r, ins⟩, ⟨rfl, rfl, hA, hI⟩, rp, rr, gi⟩) fcCells_len t1
  obtain ⟨N, nn, cn, nats, he2, h2, -⟩ := cells_seq (s := 1) intCells I64 Tryd.underlying24 (by kernel_rfl) (by omega) (fun n cs' y hy => cells_i64 Tryd.underlying3 hy) (fun _ => rfl) t2
  simp only [List.cons.injEq, and_true] at he0 he1 he2
  subst he0 he1 he2
  obtain ⟨fns, hlen, hq⟩ := list_of_each g1
  refine ⟨S, ns, c0, F, nf, cf, N, nn, cn, ⟨shs, fns, nats⟩, fcs, by rw [← Array.toArray_toList (xs := cs), show cs.toList = _ from list3 hl e0 e1 e2], ⟨h0, h1, ⟨hlen, fun i x f a1 a2 => (hq i x f a1 a2).1⟩, h2⟩, g0, fun f hf => ?_⟩
  obtain ⟨i, hi⟩ := List.mem_iff_getElem?.1 hf
  have hil : i < fcs.length := by have := (List.getElem?_eq_some_iff.1 hi).1; dsimp only at this; omega
  exact (hq i _ f (List.getElem?_eq_getElem hil) hi).2
end
theorem tyMFns : SlTy Tryd.prog 35 49 4 64 := SlTy.mk' (z := .agg #[.int .i64 0, .slice none 0 0, .int .i64 0, .slice none 0 0]) Tryd.underlying35 (by kernel_rfl) rfl (by omega)
/-- a slice that no append to 'row' writes -/
theorem Reads.row {w w' : World} {s n c : Nat} {A : Option Addr} {xs : List Value} {row : Option Nat} (hr : Reads w w.heap.size s A n c xs) (h : w.grownBy w' row) (hA : ∀ b off, 0 < n → A = some ⟨b, off, none⟩ → some b ≠ row) : Reads w' w'.heap.size s A n c xs :=
  ⟨hr.len, hr.le, hr.cap, hr.none_, fun hn => by
    obtain ⟨b, off, e, hb, hc⟩ := hr.at_ hn
    exact ⟨b, off, e, Nat.lt_of_lt_of_le hb h.size, fun j u hu => (World.cell?_of_block (a := ⟨b, _, none⟩) (h.block b hb (hA b off hn e))).trans (hc j u hu)⟩⟩
/-- a function was given: the same numbers and kinds; its instructions lie in a block of their own -/
structure InsAt (w : World) (row : Option Nat) (a2 : Nat) (x y : FC) (f : Fn) : Prop where
  p : x.p = y.p
  A : x.A = y.A
  n : x.n = y.n
  c : x.c = y.c
  r : x.r = y.r
  ins : Reads w w.heap.size 5 x.B x.m x.e (f.ins.flatMap insCells)
  far : ∀ b off, 0 < x.m → x.B = some ⟨b, off, none⟩ → a2 < b ∧ b < w.heap.size ∧ some b ≠ row
def GivenRow (w : World) (row : Option Nat) (a2 : Nat) (xs ys : List FC) (fs : List Fn) : Prop := ∀ (i : Nat) x y f, xs[i]? = some x → ys[i]? = some y → fs[i]? = some f → InsAt w row a2 x y f
section
variable {w w' : World} {row row' : Option Nat} {a2 : Nat} {xs ys : List FC} {fs : List Fn}
theorem GivenRow.nil : GivenRow w row a2 [] ys fs := fun i x y f h => by simp at h
theorem GivenRow.below (h : GivenRow w row a2 xs ys fs) (hb : Below w.heap.size w w') : GivenRow w' row a2 xs ys fs := fun i x y f h1 h2 h3 => by
  obtain ⟨p, A, n, c, r, hi, hf⟩ := h i x y f h1 h2 h3
  exact ⟨p, A, n, c, r, hi.belowU hb, fun b off hm e => by obtain ⟨q1, q2, q3⟩ := hf b off hm e; exact ⟨q1, Nat.lt_of_lt_of_le q2 hb.size, q3⟩⟩
theorem GivenRow.grown (h : GivenRow w row a2 xs ys fs) (hg : w.grownBy w' row) (hr : row' = row ∨ row' = some w.heap.size) : GivenRow w' row' a2 xs ys fs := fun i x y f h1 h2 h3 => by
  obtain ⟨p, A, n, c, r, hi, hf⟩ := h i x y f h1 h2 h3
  refine ⟨p, A, n, c, r, hi.row hg fun b off hm e => (hf b off hm e).2.2, fun b off hm e => ?_⟩
  obtain ⟨q1, q2, q3⟩ := hf b off hm e
  refine ⟨q1, Nat.lt_of_lt_of_le q2 hg.size, ?_⟩
  rcases hr with rfl | rfl
  · exact q3
  · intro e2; cases e2; omega
theorem GivenRow.set (h : GivenRow w row a2 xs ys fs) (k : Nat) (u : Value) : GivenRow (w.setCell ⟨a2, k, none⟩ u) row a2 xs ys fs := fun i x y f h1 h2 h3 => by
  obtain ⟨p, A, n, c, r, hi, hf⟩ := h i x y f h1 h2 h3
  refine ⟨p, A, n, c, r, ⟨hi.len, hi.le, hi.cap, hi.none_, fun hn => ?_⟩, fun b off hm e => by obtain ⟨q1, q2, q3⟩ := hf b off hm e; exact ⟨q1, by simpa using q2, q3⟩⟩
  obtain ⟨b, off, e, hb, hc⟩ := hi.at_ hn
  have := (hf b off hn e).1
  exact ⟨b, off, e, by simpa using hb, fun j u' hu => (World.cell?_setCell_other w _ ⟨b, _, none⟩ u (fun e2 => by injection e2; omega)).trans (hc j u' hu)⟩
theorem GivenRow.snoc {k : Nat} {x : FC} (h : GivenRow w row a2 xs ys fs) (hk : xs.length = k) (hx : ∀ y f, ys[k]? = some y → fs[k]? = some f → InsAt w row a2 x y f) : GivenRow w row a2 (xs ++ [x]) ys fs := fun i x' y f h1 h2 h3 => by
  by_cases hi : i < xs.length
  · rw [List.getElem?_append_left hi] at h1
    exact h i x' y f h1 h2 h3
  · rw [List.getElem?_append_right (by omega)] at h1
    obtain rfl : i = k := by
      have := (List.getElem?_eq_some_iff.1 h1).1
      simp at this
      omega
    rw [hk, Nat.sub_self] at h1
    cases h1
    exact hx y f h2 h3
end
end Go.Proofs.YtnnchinpmnpfiaaDoor
/- A program given to the program under test. Printed by mk_m38.py. -/
namespace Go.Proofs.YtnnchinpmnpfiaaDoor
open Go.ChangeShapes Go.WideShapes Go.RowKit Words

/-- an instruction slice lies below the world's end -/
theorem inB {w u : World} {B : Option Addr} {l d : Nat} {xs : List Value} (hr : Reads w w.heap.size 5 B l d xs) (hu : Below w.heap.size w u) (b off : Nat) (hl : 0 < l) (e : B = some ⟨b, off, none⟩) : b < u.heap.size := by
  obtain ⟨b', off', e', hb, -⟩ := hr.at_ hl
  rw [e] at e'
  cases e'
  exact Nat.lt_of_lt_of_le hb hu.size
theorem GivenRow.setB {w : World} {row : Option Nat} {a2 : Nat} {xs ys : List FC} {fs : List Fn} (h : GivenRow w row a2 xs ys fs) {p : Addr} (hp : p.block ≤ a2) (u : Value) : GivenRow (w.setCell p u) row a2 xs ys fs := fun i x y f h1 h2 h3 => by
  obtain ⟨q, A, n, c, r, hi, hf⟩ := h i x y f h1 h2 h3
  refine ⟨q, A, n, c, r, ⟨hi.len, hi.le, hi.cap, hi.none_, fun hn => ?_⟩, fun b off hm e => by obtain ⟨q1, q2, q3⟩ := hf b off hm e; exact ⟨q1, by simpa using q2, q3⟩⟩
  obtain ⟨b, off, e, hb, hc⟩ := hi.at_ hn
  have := (hf b off hn e).1
  exact ⟨b, off, e, by simpa using hb, fun j u' hu => (World.cell?_setCell_other w p ⟨b, _, none⟩ u (fun e2 => by rw [e2] at hp; simp at hp; omega)).trans (hc j u' hu)⟩
/-- a program comes back: the same shapes and natives, the functions in memory of the call's own -/
def RetPr (w : World) (S : Option Addr) (ns cs : Nat) (N : Option Addr) (nn cn : Nat) (nf : Nat) (P : Prg) (e : Ending) (w' : World) : Prop :=
  ∃ F' cf' fcs', e = .returned (prV S ns cs F' nf cf' N nn cn) ∧ PrAt w' S ns cs F' nf cf' N nn cn P fcs' ∧ Below w.heap.size w w'
set_option linter.unusedSimpArgs false in
set_option linter.unusedVariables false in
set_option maxRecDepth 100000 in
set_option maxHeartbeats 4000000 in
theorem given_any (S : Option Addr) (ns cs : Nat) (F : Option Addr) (nf cf : Nat) (N : Option Addr) (nn cn : Nat) (P : Prg) (fcs : List FC) (w : World) (hR : PrAt w S ns cs F nf cf N nn cn P fcs) (hk : P.ok) :
    Calls Tryd.prog 9 #[prV S ns cs F nf cf N nn cn] w (RetPr w S ns cs N nn cn nf P) := by
  have hlen := hR.fns.length fcCells_len (by omega)
  have hm : nf ≤ 1000000 := by have := hk.nf; have := hR.each.1; omega
  have hB0 : Below w.heap.size w (((w.alloc (.cells #[.slice S ns cs, .slice F nf cf, .slice N nn cn] 26)).alloc (.cells #[.slice none 0 0, .slice none 0 0, .slice none 0 0] 37)).alloc (.cells #[.slice S ns cs, .slice none 0 0, .slice N nn cn] 37)) := keep_alloc (keep_alloc (keep_alloc (Below.refl _ _) _) _) _
  have P0 := ((Blk.new w #[.slice S ns cs, .slice F nf cf, .slice N nn cn] 26).alloc (.cells #[.slice none 0 0, .slice none 0 0, .slice none 0 0] 37)).alloc (.cells #[.slice S ns cs, .slice none 0 0, .slice N nn cn] 37)
  have R0 := (Blk.newAt (w.alloc (.cells #[.slice S ns cs, .slice F nf cf, .slice N nn cn] 26)) #[.slice none 0 0, .slice none 0 0, .slice none 0 0] 37 (w.heap.size + 1) (by simp)).alloc (.cells #[.slice S ns cs, .slice none 0 0, .slice N nn cn] 37)
  have O0 := Blk.newAt ((w.alloc (.cells #[.slice S ns cs, .slice F nf cf, .slice N nn cn] 26)).alloc (.cells #[.slice none 0 0, .slice none 0 0, .slice none 0 0] 37)) #[.slice S ns cs, .slice none 0 0, .slice N nn cn] 37 (w.heap.size + 1 + 1) (by simp)
  have HL := Lib.hid hlen
  have hR1 := hR.below hB0
  clear hlen
  go_enter Tryd.func9, Tryd.ntmps9
  go_wp2_with fail
  obtain ⟨w1, hw1⟩ : ∃ w1, ((w.alloc (.cells #[.slice S ns cs, .slice F nf cf, .slice N nn cn] 26)).alloc (.cells #[.slice none 0 0, .slice none 0 0, .slice none 0 0] 37)).alloc (.cells #[.slice S ns cs, .slice none 0 0, .slice N nn cn] 37) = w1 := ⟨_, rfl⟩
  have hs1 : w1.heap.size = w.heap.size + 3 := by rw [← hw1]; simp
  rw [hw1] at hB0 P0 R0 O0 hR1 ⊢
  obtain ⟨g, hg⟩ : ∃ g, w.heap.size = g := ⟨_, rfl⟩
  have h1 := hR.fns.below hB0
  rw [hg] at hB0 P0 R0 O0 hs1 h1 ⊢
  obtain ⟨a2, ha2⟩ : ∃ a2, g + 1 + 1 = a2 := ⟨_, rfl⟩
  have hga : g + 2 = a2 := by omega
  rw [ha2] at O0 ⊢
  have HG := Lib.hid hg
  clear hw1 hg ha2
  go_loopw [4] (fun x wq => ∃ (k : Nat) (A' : Option Addr) (e' : Nat) (xs : List FC), k ≤ nf ∧ x = .int .i64 k ∧ xs.length = k ∧ wq.ownsRow (a2 + 1) 49 4 (.slice A' k e') k (xs.flatMap fcCells) ∧ Blk wq a2 37 #[.slice S ns cs, .slice A' k e', .slice N nn cn] ∧ GivenRow wq (Value.ownBlock (.slice A' k e')) a2 xs fcs P.fns ∧ Below a2 w1 wq ∧ w1.heap.size ≤ wq.heap.size) (fun x _ => nf - (intOf x).toNat)
  case atStart => exact ⟨0, none, 0, [], Nat.zero_le _, rfl, rfl, World.ownsRow_nil _ _ _ _, O0, GivenRow.nil, Below.refl _ _, Nat.le_refl _⟩
  case round =>
    obtain ⟨k, A', e', xs, hk0', rfl, hxl, hown, O, hgr, hb, hsz⟩ := hrel
    have HXL := Lib.hid hxl
    have HGR := Lib.hid hgr
    clear hxl hgr
    have Pq := P0.belowB hb (by omega)
    have p1 : wr.cell? ⟨g, 1, none⟩ = some (.slice F nf cf) := Pq.cell 1 _ rfl
    have hRr : PrAt wr S ns cs F nf cf N nn cn P fcs := hR.below (by have := HG.out; rw [this]; exact hB0.trans (hb.mono (by omega)))
    by_cases hlt : k < nf
    · obtain ⟨b0, off, x, hFA, hbb, hx, hc⟩ := (h1.below (hb.mono (by omega))).elem fcCells_len (by omega) hlt
      have hkl : k < P.fns.length := by have := hR.each.1; have := HL.out; omega
      obtain ⟨f, hf⟩ : ∃ f, P.fns[k]? = some f := ⟨_, List.getElem?_eq_getElem hkl⟩
      have hat := hRr.each.2 k x f hx hf
      have hfok := hk.fns f (List.mem_of_getElem? hf)
      have hli := hat.ins.length insCells_len (by omega)
      have hni := hfok.ni
      obtain ⟨p, A, n, c, r, B, m, d⟩ := x
      dsimp only at hli
      have HFN := Lib.hid (show ∀ u, Below wr.heap.size wr u → Calls Tryd.prog 13 #[fnV p A n c r B m d] u (RetFnO u p A n c r f.ins) from fun u hu => function_own p A n c r B m d f.ins u (hat.ins.belowU hu) (by omega))
      obtain ⟨l2, hl2⟩ : ∃ l2, f.ins.length = l2 := ⟨_, rfl⟩
      have HLI := Lib.hid hl2
      have HF := Lib.hid hf
      have HFC := Lib.hid hx
      have d0 : wr.cell? ⟨b0, off + k * 4, none⟩ = some (.int .i64 p) := hc 0 _ rfl
      have d1 := hc 1 _ rfl
      have d2' := hc 2 _ rfl
      have d3 := hc 3 _ rfl
      dsimp only at d1 d2' d3
      subst hFA
      have hk0 : (0 : Int) ≤ (k : Int) := by omega
      have hk1 : (k : Int) < (nf : Int) := by omega
      have hd : decide ((k : Int) < (nf : Int)) = true := decide_eq_true hk1
      have hd2 : decide (k < nf) = true := decide_eq_true hlt
      have hw : IntKind.i64.wrap ((k : Int) + 1) = (k : Int) + 1 := IntWalk.i64_in _ (by omega)
      have q1' : k + 1 ≤ maxLen := by unfold maxLen; omega
      have q2' : (k + 1) * 64 ≤ 140737488355328 := by omega
      have hb0a : b0 < a2 := by omega
      have hgl : g < a2 := by omega
      clear hc hx hf hat hfok hli hni hl2 hRr
      go_upto_region 5 with fail
      have hH : Below wr.heap.size wr (World.drew wr) := (Below.refl _ _).drew
      have o3 : (World.drew wr).cell? ⟨a2, 1, none⟩ = some (.slice A' k e') := O.cell 1 _ rfl
      refine wp_region_noPanic ?_
      refine wp_region_held_drew (S := fun w' => Below a2 wr w') (by kernel_rfl) (Below.refl _ _).drew (fun hHeld => ?_)
      refine wpAnyH_take (i := 0) (v := ?_) rfl (by kernel_rfl) (by kernel_rfl) (by kernel_rfl) (fun _ _ _ h => h) (Or.inl ⟨by rfl, ?_⟩) (by assumption) ?_
      rotate_left
      · intro wq hSw; clear hSw; go_simp; (try with_reducible rfl)
      (try simp only [List.getElem_toArray, List.getElem_cons_zero, List.getElem_cons_succ, Act.put, List.setIfInBounds_toArray, List.set_cons_zero, List.set_cons_succ])
      refine wpAnyH_take (i := 2) (v := ?_) rfl (by kernel_rfl) (by kernel_rfl) (by kernel_rfl) (fun _ _ _ h => h) (Or.inl ⟨by rfl, ?_⟩) (by assumption) ?_
      rotate_left
      · intro wq hSw; clear hSw; go_simp; (try with_reducible rfl)
      (try simp only [List.getElem_toArray, List.getElem_cons_zero, List.getElem_cons_succ, Act.put, List.setIfInBounds_toArray, List.set_cons_zero, List.set_cons_succ])
      refine wpAnyH_take (i := 3) (v := ?_) rfl (by kernel_rfl) (by kernel_rfl) (by kernel_rfl) (fun _ _ _ h => h) (Or.inl ⟨by rfl, ?_⟩) (by assumption) ?_
      rotate_left
      · intro wq hSw; have zp1 := (hSw.cell (p := ⟨g, 1, none⟩) hgl).trans p1; clear hSw; go_simp; (try with_reducible rfl)
      (try simp only [List.getElem_toArray, List.getElem_cons_zero, List.getElem_cons_succ, Act.put, List.setIfInBounds_toArray, List.set_cons_zero, List.set_cons_succ])
      refine wpAnyH_take (i := 4) (v := ?_) rfl (by kernel_rfl) (by kernel_rfl) (by kernel_rfl) (fun _ _ _ h => h) (Or.inl ⟨by rfl, ?_⟩) (by assumption) ?_
      rotate_left
      · intro wq hSw; clear hSw; go_simp; (try with_reducible rfl)
      (try simp only [List.getElem_toArray, List.getElem_cons_zero, List.getElem_cons_succ, Act.put, List.setIfInBounds_toArray, List.set_cons_zero, List.set_cons_succ])
      refine wpAnyH_take (i := 5) (v := ?_) rfl (by kernel_rfl) (by kernel_rfl) (by kernel_rfl) (fun _ _ _ h => h) (Or.inl ⟨by rfl, ?_⟩) (by assumption) ?_
      rotate_left
      · intro wq hSw; clear hSw; go_simp; (try with_reducible rfl)
      (try simp only [List.getElem_toArray, List.getElem_cons_zero, List.getElem_cons_succ, Act.put, List.setIfInBounds_toArray, List.set_cons_zero, List.set_cons_succ])
      refine wpAnyH_take (i := 6) (v := ?_) rfl (by kernel_rfl) (by kernel_rfl) (by kernel_rfl) (fun _ _ _ h => h) (Or.inl ⟨by rfl, ?_⟩) (by assumption) ?_
      rotate_left
      · intro wq hSw; have zd0 := (hSw.cell (p := ⟨b0, off + k * 4, none⟩) hb0a).trans d0; have zd1 := (hSw.cell (p := ⟨b0, off + k * 4 + 1, none⟩) hb0a).trans d1; have zd2' := (hSw.cell (p := ⟨b0, off + k * 4 + 2, none⟩) hb0a).trans d2'; have zd3 := (hSw.cell (p := ⟨b0, off + k * 4 + 3, none⟩) hb0a).trans d3; clear hSw; go_simp; (try with_reducible rfl)
      (try simp only [List.getElem_toArray, List.getElem_cons_zero, List.getElem_cons_succ, Act.put, List.setIfInBounds_toArray, List.set_cons_zero, List.set_cons_succ])
      refine wpAnyH_ready (rs := [1, 7]) (by kernel_rfl) (by simp) ?_
      refine AllReadyH.cons (i := 1) (by rfl) ?_ (AllReadyH.cons (i := 7) (by rfl) ?_ (AllReadyH.nil))
      · skip
        intro K' hK
        simp only [List.getElem_toArray, List.getElem_cons_zero, List.getElem_cons_succ]
        refine if_yes (by kernel_rfl) ?_
        go_big_op
        refine hK.out _ _ ?_ (fun hHeld2 => ?_)
        · exact hHeld
        clear hK K' hHeld
        have hHeld := hHeld2
        clear hHeld2
        (try simp only [List.getElem_toArray, List.getElem_cons_zero, List.getElem_cons_succ, Act.put, List.setIfInBounds_toArray, List.set_cons_zero, List.set_cons_succ])
        refine wpAnyH_ready (rs := [7]) (by kernel_rfl) (by simp) ?_
        refine AllReadyH.cons (i := 7) (by rfl) ?_ (AllReadyH.nil)
        · skip
          intro K' hK
          simp only [List.getElem_toArray, List.getElem_cons_zero, List.getElem_cons_succ]
          refine if_yes (by kernel_rfl) ?_
          go_big_op
          (go_at_call 13; refine (HFN.out _ hH).mono ?_; rintro e w2 ⟨B2, d2, rfl, hr2, hb1, hlow⟩; have tl := HLI.out; rw [tl] at hr2 ⊢; clear tl)
          refine hK.out _ _ ?_ (fun hHeld2 => ?_)
          · exact hHeld.trans (hb1.mono (by have := hH.size; omega))
          clear hK K' hHeld
          have hHeld := hHeld2
          clear hHeld2
          (try simp only [List.getElem_toArray, List.getElem_cons_zero, List.getElem_cons_succ, Act.put, List.setIfInBounds_toArray, List.set_cons_zero, List.set_cons_succ])
          have hNew := Lib.hid (show ∀ u, Below w2.heap.size w2 u → ∀ y f, fcs[k]? = some y → P.fns[k]? = some f → InsAt u (Value.ownBlock (.slice A' k e')) a2 ⟨p, A, n, c, r, B2, l2, d2⟩ y f from fun u hu y f hy hf => by
            have q1 := HFC.out.symm.trans hy; have q2 := HF.out.symm.trans hf; cases q1; cases q2
            exact ⟨rfl, rfl, rfl, rfl, rfl, hr2.belowU hu, fun b off hl0 e => by have h1 := hlow b off e; exact ⟨by have := hH.size; omega, inB hr2 hu b off hl0 e, own_ne hown (Or.inr (by have := hH.size; omega))⟩⟩)
          have hH := keep_below hb1 hH
          have hH2 : Below w2.heap.size w2 w2 := Below.refl _ _
          have o3 := keep_cell hb1 o3
          clear hb1
          refine wpAnyH_ready (rs := [8]) (by kernel_rfl) (by simp) ?_
          refine AllReadyH.cons (i := 8) (by rfl) ?_ (AllReadyH.nil)
          · skip
            intro K' hK
            simp only [List.getElem_toArray, List.getElem_cons_zero, List.getElem_cons_succ]
            refine if_yes (by kernel_rfl) ?_
            go_big_op
            refine hK.out _ _ ?_ (fun hHeld2 => ?_)
            · exact hHeld.alloc (by have := hH.size; omega) _
            clear hK K' hHeld
            have hHeld := hHeld2
            clear hHeld2
            (try simp only [List.getElem_toArray, List.getElem_cons_zero, List.getElem_cons_succ, Act.put, List.setIfInBounds_toArray, List.set_cons_zero, List.set_cons_succ])
            have hfr := Reads.freshAs w2 #[.int .i64 p, .slice A n c, .int .i64 r, .slice B2 l2 d2] 49 4 1 [.int .i64 p, .slice A n c, .int .i64 r, .slice B2 l2 d2] rfl rfl (by decide)
            have o3 := (keep_cell (keep_alloc (Below.refl w2.heap.size w2) (.cells #[.int .i64 p, .slice A n c, .int .i64 r, .slice B2 l2 d2] 49)) o3)
            have hH := keep_alloc hH (.cells #[.int .i64 p, .slice A n c, .int .i64 r, .slice B2 l2 d2] 49)
            have hH2 := keep_alloc hH2 (.cells #[.int .i64 p, .slice A n c, .int .i64 r, .slice B2 l2 d2] 49)
            refine wpAnyH_ready (rs := [9]) (by kernel_rfl) (by simp) ?_
            refine AllReadyH.cons (i := 9) (by rfl) ?_ AllReadyH.nil
            have hownC := own_keep hown hH
            have hG2 := HGR.out.below hH
            intro K' hK
            refine step_appB rfl _ _ _ (by rfl) tyMFns (by rfl) hownC (by rfl) hfr (by simp [Value.oneCell']) q1' q2' (by have := hH.size; omega) ?_; intro v' w6 hown' hg6 hbk; have hbG := below_ownN hownC hg6 (Nat.le_refl _) (by have := hH.size; omega); obtain ⟨A3, c3, rfl, -⟩ := Reads.own hown'
            refine hK.out _ _ ?_ (fun hHeld2 => ?_)
            · exact hHeld.trans (hbG.mono (by omega))
            clear hK K' hHeld
            have hHeld := hHeld2
            clear hHeld2
            (try simp only [List.getElem_toArray, List.getElem_cons_zero, List.getElem_cons_succ, Act.put, List.setIfInBounds_toArray, List.set_cons_zero, List.set_cons_succ])
            have O6 := (O.below hH).belowB hbG (by omega)
            have o6 := O6.cell 1 _ rfl
            have e6 := O6.free
            have hG6 := ((hG2.snoc HXL.out (fun y f hy hf => hNew.out _ hH2 y f hy hf)).grown hg6 hbk).set 1 (.slice A3 (k + 1) c3)
            refine wpAnyH_take (i := 10) (v := ?_) rfl (by kernel_rfl) (by kernel_rfl) (by kernel_rfl) (fun _ _ _ h => h) (Or.inl ⟨by rfl, ?_⟩) (by assumption) ?_
            rotate_left
            · intro wq hSw; clear hSw; go_simp; (try with_reducible rfl)
            (try simp only [List.getElem_toArray, List.getElem_cons_zero, List.getElem_cons_succ, Act.put, List.setIfInBounds_toArray, List.set_cons_zero, List.set_cons_succ])
            refine wpAnyH_ready (rs := [11]) (by kernel_rfl) (by simp) ?_
            refine AllReadyH.cons (i := 11) (by rfl) ?_ AllReadyH.nil
            intro K' hK
            simp only [List.getElem_toArray, List.getElem_cons_zero, List.getElem_cons_succ]
            refine if_yes (by kernel_rfl) ?_
            go_big_op
            refine hK.out _ _ ?_ (fun hHeld2 => ?_)
            · exact hHeld.setCell (p := ⟨a2, 1, none⟩) (Nat.le_refl _) _
            clear hK K' hHeld
            have hHeld := hHeld2
            clear hHeld2
            (try simp only [List.getElem_toArray, List.getElem_cons_zero, List.getElem_cons_succ, Act.put, List.setIfInBounds_toArray, List.set_cons_zero, List.set_cons_succ])
            refine wpAnyH_done (by kernel_rfl) ?_ _
            refine NoPanic.normal ?_
            go_wp2_with fail
            go_roundw
            case rel =>
              refine ⟨k + 1, A3, c3, xs ++ [⟨p, A, n, c, r, B2, l2, d2⟩], by omega, by go_num, by simp [HXL.out], ?_, O6.set 1 (.slice A3 (k + 1) c3), hG6, hb.trans hHeld, by have := hH.size; have := hbG.size; simp; omega⟩
              rw [List.flatMap_append]
              exact ownsRow_setCell_below hown' (by show a2 < _; omega) _
            case measure => simp [intOf]; omega
      · skip
        intro K' hK
        simp only [List.getElem_toArray, List.getElem_cons_zero, List.getElem_cons_succ]
        refine if_yes (by kernel_rfl) ?_
        go_big_op
        (go_at_call 13; refine (HFN.out _ hH).mono ?_; rintro e w2 ⟨B2, d2, rfl, hr2, hb1, hlow⟩; have tl := HLI.out; rw [tl] at hr2 ⊢; clear tl)
        refine hK.out _ _ ?_ (fun hHeld2 => ?_)
        · exact hHeld.trans (hb1.mono (by have := hH.size; omega))
        clear hK K' hHeld
        have hHeld := hHeld2
        clear hHeld2
        (try simp only [List.getElem_toArray, List.getElem_cons_zero, List.getElem_cons_succ, Act.put, List.setIfInBounds_toArray, List.set_cons_zero, List.set_cons_succ])
        have hNew := Lib.hid (show ∀ u, Below w2.heap.size w2 u → ∀ y f, fcs[k]? = some y → P.fns[k]? = some f → InsAt u (Value.ownBlock (.slice A' k e')) a2 ⟨p, A, n, c, r, B2, l2, d2⟩ y f from fun u hu y f hy hf => by
          have q1 := HFC.out.symm.trans hy; have q2 := HF.out.symm.trans hf; cases q1; cases q2
          exact ⟨rfl, rfl, rfl, rfl, rfl, hr2.belowU hu, fun b off hl0 e => by have h1 := hlow b off e; exact ⟨by have := hH.size; omega, inB hr2 hu b off hl0 e, own_ne hown (Or.inr (by have := hH.size; omega))⟩⟩)
        have hH := keep_below hb1 hH
        have hH2 : Below w2.heap.size w2 w2 := Below.refl _ _
        have o3 := keep_cell hb1 o3
        clear hb1
        refine wpAnyH_ready (rs := [1, 8]) (by kernel_rfl) (by simp) ?_
        refine AllReadyH.cons (i := 1) (by rfl) ?_ (AllReadyH.cons (i := 8) (by rfl) ?_ (AllReadyH.nil))
        · skip
          intro K' hK
          simp only [List.getElem_toArray, List.getElem_cons_zero, List.getElem_cons_succ]
          refine if_yes (by kernel_rfl) ?_
          go_big_op
          refine hK.out _ _ ?_ (fun hHeld2 => ?_)
          · exact hHeld
          clear hK K' hHeld
          have hHeld := hHeld2
          clear hHeld2
          (try simp only [List.getElem_toArray, List.getElem_cons_zero, List.getElem_cons_succ, Act.put, List.setIfInBounds_toArray, List.set_cons_zero, List.set_cons_succ])
          refine wpAnyH_ready (rs := [8]) (by kernel_rfl) (by simp) ?_
          refine AllReadyH.cons (i := 8) (by rfl) ?_ (AllReadyH.nil)
          · skip
            intro K' hK
            simp only [List.getElem_toArray, List.getElem_cons_zero, List.getElem_cons_succ]
            refine if_yes (by kernel_rfl) ?_
            go_big_op
            refine hK.out _ _ ?_ (fun hHeld2 => ?_)
            · exact hHeld.alloc (by have := hH.size; omega) _
            clear hK K' hHeld
            have hHeld := hHeld2
            clear hHeld2
            (try simp only [List.getElem_toArray, List.getElem_cons_zero, List.getElem_cons_succ, Act.put, List.setIfInBounds_toArray, List.set_cons_zero, List.set_cons_succ])
            have hfr := Reads.freshAs w2 #[.int .i64 p, .slice A n c, .int .i64 r, .slice B2 l2 d2] 49 4 1 [.int .i64 p, .slice A n c, .int .i64 r, .slice B2 l2 d2] rfl rfl (by decide)
            have o3 := (keep_cell (keep_alloc (Below.refl w2.heap.size w2) (.cells #[.int .i64 p, .slice A n c, .int .i64 r, .slice B2 l2 d2] 49)) o3)
            have hH := keep_alloc hH (.cells #[.int .i64 p, .slice A n c, .int .i64 r, .slice B2 l2 d2] 49)
            have hH2 := keep_alloc hH2 (.cells #[.int .i64 p, .slice A n c, .int .i64 r, .slice B2 l2 d2] 49)
            refine wpAnyH_ready (rs := [9]) (by kernel_rfl) (by simp) ?_
            refine AllReadyH.cons (i := 9) (by rfl) ?_ AllReadyH.nil
            have hownC := own_keep hown hH
            have hG2 := HGR.out.below hH
            intro K' hK
            refine step_appB rfl _ _ _ (by rfl) tyMFns (by rfl) hownC (by rfl) hfr (by simp [Value.oneCell']) q1' q2' (by have := hH.size; omega) ?_; intro v' w6 hown' hg6 hbk; have hbG := below_ownN hownC hg6 (Nat.le_refl _) (by have := hH.size; omega); obtain ⟨A3, c3, rfl, -⟩ := Reads.own hown'
            refine hK.out _ _ ?_ (fun hHeld2 => ?_)
            · exact hHeld.trans (hbG.mono (by omega))
            clear hK K' hHeld
            have hHeld := hHeld2
            clear hHeld2
            (try simp only [List.getElem_toArray, List.getElem_cons_zero, List.getElem_cons_succ, Act.put, List.setIfInBounds_toArray, List.set_cons_zero, List.set_cons_succ])
            have O6 := (O.below hH).belowB hbG (by omega)
            have o6 := O6.cell 1 _ rfl
            have e6 := O6.free
            have hG6 := ((hG2.snoc HXL.out (fun y f hy hf => hNew.out _ hH2 y f hy hf)).grown hg6 hbk).set 1 (.slice A3 (k + 1) c3)
            refine wpAnyH_take (i := 10) (v := ?_) rfl (by kernel_rfl) (by kernel_rfl) (by kernel_rfl) (fun _ _ _ h => h) (Or.inl ⟨by rfl, ?_⟩) (by assumption) ?_
            rotate_left
            · intro wq hSw; clear hSw; go_simp; (try with_reducible rfl)
            (try simp only [List.getElem_toArray, List.getElem_cons_zero, List.getElem_cons_succ, Act.put, List.setIfInBounds_toArray, List.set_cons_zero, List.set_cons_succ])
            refine wpAnyH_ready (rs := [11]) (by kernel_rfl) (by simp) ?_
            refine AllReadyH.cons (i := 11) (by rfl) ?_ AllReadyH.nil
            intro K' hK
            simp only [List.getElem_toArray, List.getElem_cons_zero, List.getElem_cons_succ]
            refine if_yes (by kernel_rfl) ?_
            go_big_op
            refine hK.out _ _ ?_ (fun hHeld2 => ?_)
            · exact hHeld.setCell (p := ⟨a2, 1, none⟩) (Nat.le_refl _) _
            clear hK K' hHeld
            have hHeld := hHeld2
            clear hHeld2
            (try simp only [List.getElem_toArray, List.getElem_cons_zero, List.getElem_cons_succ, Act.put, List.setIfInBounds_toArray, List.set_cons_zero, List.set_cons_succ])
            refine wpAnyH_done (by kernel_rfl) ?_ _
            refine NoPanic.normal ?_
            go_wp2_with fail
            go_roundw
            case rel =>
              refine ⟨k + 1, A3, c3, xs ++ [⟨p, A, n, c, r, B2, l2, d2⟩], by omega, by go_num, by simp [HXL.out], ?_, O6.set 1 (.slice A3 (k + 1) c3), hG6, hb.trans hHeld, by have := hH.size; have := hbG.size; simp; omega⟩
              rw [List.flatMap_append]
              exact ownsRow_setCell_below hown' (by show a2 < _; omega) _
            case measure => simp [intOf]; omega
        · skip
          intro K' hK
          simp only [List.getElem_toArray, List.getElem_cons_zero, List.getElem_cons_succ]
          refine if_yes (by kernel_rfl) ?_
          go_big_op
          refine hK.out _ _ ?_ (fun hHeld2 => ?_)
          · exact hHeld.alloc (by have := hH.size; omega) _
          clear hK K' hHeld
          have hHeld := hHeld2
          clear hHeld2
          (try simp only [List.getElem_toArray, List.getElem_cons_zero, List.getElem_cons_succ, Act.put, List.setIfInBounds_toArray, List.set_cons_zero, List.set_cons_succ])
          have hfr := Reads.freshAs w2 #[.int .i64 p, .slice A n c, .int .i64 r, .slice B2 l2 d2] 49 4 1 [.int .i64 p, .slice A n c, .int .i64 r, .slice B2 l2 d2] rfl rfl (by decide)
          have o3 := (keep_cell (keep_alloc (Below.refl w2.heap.size w2) (.cells #[.int .i64 p, .slice A n c, .int .i64 r, .slice B2 l2 d2] 49)) o3)
          have hH := keep_alloc hH (.cells #[.int .i64 p, .slice A n c, .int .i64 r, .slice B2 l2 d2] 49)
          have hH2 := keep_alloc hH2 (.cells #[.int .i64 p, .slice A n c, .int .i64 r, .slice B2 l2 d2] 49)
          refine wpAnyH_ready (rs := [1]) (by kernel_rfl) (by simp) ?_
          refine AllReadyH.cons (i := 1) (by rfl) ?_ (AllReadyH.nil)
          · skip
            intro K' hK
            simp only [List.getElem_toArray, List.getElem_cons_zero, List.getElem_cons_succ]
            refine if_yes (by kernel_rfl) ?_
            go_big_op
            refine hK.out _ _ ?_ (fun hHeld2 => ?_)
            · exact hHeld
            clear hK K' hHeld
            have hHeld := hHeld2
            clear hHeld2
            (try simp only [List.getElem_toArray, List.getElem_cons_zero, List.getElem_cons_succ, Act.put, List.setIfInBounds_toArray, List.set_cons_zero, List.set_cons_succ])
            refine wpAnyH_ready (rs := [9]) (by kernel_rfl) (by simp) ?_
            refine AllReadyH.cons (i := 9) (by rfl) ?_ AllReadyH.nil
            have hownC := own_keep hown hH
            have hG2 := HGR.out.below hH
            intro K' hK
            refine step_appB rfl _ _ _ (by rfl) tyMFns (by rfl) hownC (by rfl) hfr (by simp [Value.oneCell']) q1' q2' (by have := hH.size; omega) ?_; intro v' w6 hown' hg6 hbk; have hbG := below_ownN hownC hg6 (Nat.le_refl _) (by have := hH.size; omega); obtain ⟨A3, c3, rfl, -⟩ := Reads.own hown'
            refine hK.out _ _ ?_ (fun hHeld2 => ?_)
            · exact hHeld.trans (hbG.mono (by omega))
            clear hK K' hHeld
            have hHeld := hHeld2
            clear hHeld2
            (try simp only [List.getElem_toArray, List.getElem_cons_zero, List.getElem_cons_succ, Act.put, List.setIfInBounds_toArray, List.set_cons_zero, List.set_cons_succ])
            have O6 := (O.below hH).belowB hbG (by omega)
            have o6 := O6.cell 1 _ rfl
            have e6 := O6.free
            have hG6 := ((hG2.snoc HXL.out (fun y f hy hf => hNew.out _ hH2 y f hy hf)).grown hg6 hbk).set 1 (.slice A3 (k + 1) c3)
            refine wpAnyH_take (i := 10) (v := ?_) rfl (by kernel_rfl) (by kernel_rfl) (by kernel_rfl) (fun _ _ _ h => h) (Or.inl ⟨by rfl, ?_⟩) (by assumption) ?_
            rotate_left
            · intro wq hSw; clear hSw; go_simp; (try with_reducible rfl)
            (try simp only [List.getElem_toArray, List.getElem_cons_zero, List.getElem_cons_succ, Act.put, List.setIfInBounds_toArray, List.set_cons_zero, List.set_cons_succ])
            refine wpAnyH_ready (rs := [11]) (by kernel_rfl) (by simp) ?_
            refine AllReadyH.cons (i := 11) (by rfl) ?_ AllReadyH.nil
            intro K' hK
            simp only [List.getElem_toArray, List.getElem_cons_zero, List.getElem_cons_succ]
            refine if_yes (by kernel_rfl) ?_
            go_big_op
            refine hK.out _ _ ?_ (fun hHeld2 => ?_)
            · exact hHeld.setCell (p := ⟨a2, 1, none⟩) (Nat.le_refl _) _
            clear hK K' hHeld
            have hHeld := hHeld2
            clear hHeld2
            (try simp only [List.getElem_toArray, List.getElem_cons_zero, List.getElem_cons_succ, Act.put, List.setIfInBounds_toArray, List.set_cons_zero, List.set_cons_succ])
            refine wpAnyH_done (by kernel_rfl) ?_ _
            refine NoPanic.normal ?_
            go_wp2_with fail
            go_roundw
            case rel =>
              refine ⟨k + 1, A3, c3, xs ++ [⟨p, A, n, c, r, B2, l2, d2⟩], by omega, by go_num, by simp [HXL.out], ?_, O6.set 1 (.slice A3 (k + 1) c3), hG6, hb.trans hHeld, by have := hH.size; have := hbG.size; simp; omega⟩
              rw [List.flatMap_append]
              exact ownsRow_setCell_below hown' (by show a2 < _; omega) _
            case measure => simp [intOf]; omega
    · have hkm : k = nf := by omega
      subst hkm
      have hd : decide ((k : Int) < (k : Int)) = false := by simp
      have hd2 : decide (k < k) = false := by simp
      have R1 := R0.belowB hb (by omega)
      have r0 := R1.cell 0 _ rfl
      have r1 := R1.cell 1 _ rfl
      have r2 := R1.cell 2 _ rfl
      have fr := R1.free
      have o0 := O.cell 0 _ rfl
      have o1 := O.cell 1 _ rfl
      have o2 := O.cell 2 _ rfl
      have hBr := hB0.trans (hb.mono (show g ≤ a2 by omega))
      have hBf : Below g w (((wr.setCell ⟨g + 1, 0, none⟩ (.slice S ns cs)).setCell ⟨g + 1, 1, none⟩ (.slice A' k e')).setCell ⟨g + 1, 2, none⟩ (.slice N nn cn)) := ((hBr.setCell (p := ⟨g + 1, 0, none⟩) (Nat.le_succ g) _).setCell (p := ⟨g + 1, 1, none⟩) (Nat.le_succ g) _).setCell (p := ⟨g + 1, 2, none⟩) (Nat.le_succ g) _
      have hown2 := ownsRow_setCell_below (ownsRow_setCell_below (ownsRow_setCell_below hown (a := ⟨g + 1, 0, none⟩) (by show g + 1 < _; omega) (.slice S ns cs)) (a := ⟨g + 1, 1, none⟩) (by show g + 1 < _; omega) (.slice A' k e')) (a := ⟨g + 1, 2, none⟩) (by show g + 1 < _; omega) (.slice N nn cn)
      obtain ⟨A4, c4, e4, hr5⟩ := Reads.own hown2
      injection e4 with x1 x2 x3
      subst x1 x3
      have hgf := ((HGR.out.setB (p := ⟨g + 1, 0, none⟩) (show g + 1 ≤ a2 by omega) (.slice S ns cs)).setB (p := ⟨g + 1, 1, none⟩) (show g + 1 ≤ a2 by omega) (.slice A' k e')).setB (p := ⟨g + 1, 2, none⟩) (show g + 1 ≤ a2 by omega) (.slice N nn cn)
      have hBfw : Below w.heap.size w (((wr.setCell ⟨g + 1, 0, none⟩ (.slice S ns cs)).setCell ⟨g + 1, 1, none⟩ (.slice A' k e')).setCell ⟨g + 1, 2, none⟩ (.slice N nn cn)) := by have e := HG.out; have hh := hBf; generalize (((wr.setCell ⟨g + 1, 0, none⟩ (.slice S ns cs)).setCell ⟨g + 1, 1, none⟩ (.slice A' k e')).setCell ⟨g + 1, 2, none⟩ (.slice N nn cn)) = WW at hh ⊢; rw [e]; exact hh
      have hRf := hR.below hBfw
      have HPR := Lib.hid (show PrAt (((wr.setCell ⟨g + 1, 0, none⟩ (.slice S ns cs)).setCell ⟨g + 1, 1, none⟩ (.slice A' k e')).setCell ⟨g + 1, 2, none⟩ (.slice N nn cn)) S ns cs A' k e' N nn cn P xs from ⟨hRf.shs, hr5, ⟨by have := HXL.out; have := HL.out; have := hR.each.1; omega, fun i x f h1 h2 => by
        have hil : i < fcs.length := by have := hR.each.1; have := (List.getElem?_eq_some_iff.1 h2).1; omega
        have hy := List.getElem?_eq_getElem hil
        obtain ⟨q1, q2, q3, q4, q5, q6, -⟩ := hgf i x _ f h1 hy h2
        have hat := hRf.each.2 i _ f hy h2
        exact ⟨q1.trans hat.p, q5.trans hat.r, by rw [q2, q3, q4]; exact hat.locs, q6⟩⟩, hRf.nats⟩)
      have HBF := Lib.hid hBfw
      clear hown hown2 hr5 hgf hRf hRr hBfw hBf hBr
      go_wp2_with fail
      refine bodyPost_ret (v := prV S ns cs A' k e' N nn cn) (by simp [results, Tryd.results9, go_sem, r0, r1, r2]) rfl ?_
      exact ⟨A', e', xs, rfl, HPR.out, HBF.out⟩
end Go.Proofs.YtnnchinpmnpfiaaDoor

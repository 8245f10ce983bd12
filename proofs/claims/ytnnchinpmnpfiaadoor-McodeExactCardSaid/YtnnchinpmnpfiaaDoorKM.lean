/- What a program that is being made holds. PRINTED BY A PROGRAM (mk_made7.py). -/
import Derived.Test.YtnnchinpmnpfiaaDoorKJ
import Derived.Test.YtnnchinpmnpfiaaDoorKL
import Derived.Test.YtnnchinpmnpfiaaDoorKA
namespace Go.Proofs.YtnnchinpmnpfiaaDoor
open Go.ChangeShapes Go.WideShapes Go.RowKit Words

theorem tyRHds : SlTy Tryd.prog 22 73 3 24 := SlTy.mk' (z := .agg #[.int .i64 0, .int .i64 0, .int .u32 0]) Tryd.underlying22 (by kernel_rfl) rfl (by omega)
theorem tyRInsM : SlTy Tryd.prog 42 55 5 40 := SlTy.mk' (z := .agg #[.int .i64 0, .int .i64 0, .int .i64 0, .int .i64 0, .int .u64 0]) Tryd.underlying42 (by kernel_rfl) rfl (by omega)
/-- a cell that has not turned -/
theorem OnlyX.cell {X : Nat → Prop} {w w' : World} (h : OnlyX X w w') {b o : Nat} {v : Value} (hc : w.cell? ⟨b, o, none⟩ = some v) (hx : ¬ X b) : w'.cell? ⟨b, o, none⟩ = some v :=
  (World.cell?_of_block (a := ⟨b, o, none⟩) (h.block b (World.block_lt_of_cell? w ⟨b, o, none⟩ hc) hx)).trans hc
/-- a cell of a row of the call's own -/
theorem own_at {α : Type} {f : α → List Value} {l : List α} {w : World} {base b n c s : Nat} {e : TypeId} (h : w.ownsRow base e s (.slice (some ⟨b, 0, none⟩) n c) n (l.flatMap f)) (hs : ∀ a, (f a).length = s) {k : Nat} {a : α} (hk : l[k]? = some a) {j : Nat} {u : Value} (hu : (f a)[j]? = some u) : w.cell? ⟨b, k * s + j, none⟩ = some u := by
  have hj : j < s := by rw [← hs a]; exact (List.getElem?_eq_some_iff.1 hu).1
  have h1 := h.cells (g := b) rfl (k * s + j) u (by rw [flat_at f s hs l k j hj a hk]; exact hu)
  unfold Addr.add at h1
  split at h1
  · rename_i h0; rw [h0]; exact h1
  · simpa using h1
theorem own_free {w : World} {base b n c s : Nat} {e : TypeId} {xs : List Value} (h : w.ownsRow base e s (.slice (some ⟨b, 0, none⟩) n c) n xs) (i : Nat) : w.frozen? ⟨b, i, none⟩ = false := by
  rcases h.2 with ⟨h2, -⟩ | ⟨g, cap, cur, h2, -, hg, -⟩
  · cases h2
  · cases h2; exact Blk.free hg i
theorem flat_set {α : Type} {f : α → List Value} {s : Nat} (hs : ∀ a, (f a).length = s) {l : List α} {k : Nat} {a a' : α} (hk : l[k]? = some a) {j : Nat} (hj : j < s) {u : Value} (hf : (f a).set j u = f a') : (l.flatMap f).set (k * s + j) u = (l.set k a').flatMap f := by
  induction l generalizing k with
  | nil => simp at hk
  | cons b l ih =>
    cases k with
    | zero =>
      simp at hk; subst hk
      rw [List.flatMap_cons, List.set_cons_zero, List.flatMap_cons, ← hf, Nat.zero_mul, Nat.zero_add, List.set_append_left _ _ (by rw [hs]; exact hj)]
    | succ k =>
      simp at hk
      rw [List.flatMap_cons, List.set_cons_succ, List.flatMap_cons, ← ih hk, List.set_append_right _ _ (by rw [hs, Nat.succ_mul]; omega)]
      congr 2
      rw [hs, Nat.succ_mul]; omega
/-- a function of a program that is being made, in blocks outside of X -/
structure FnM (w : World) (X : Nat → Prop) (x : FC) (f : Fn) : Prop where
  p : x.p = f.p
  r : x.r = f.r
  locs : Reads w w.heap.size 1 x.A x.n x.c (f.locs.flatMap intCells)
  lf : FarX X x.n x.A
  ins : Reads w w.heap.size 5 x.B x.m x.e (f.ins.flatMap insCells)
  jf : FarX X x.m x.B
  ok : HeadOk f.p f.locs f.r
def FnsM (w : World) (X : Nat → Prop) (xs : List FC) (fs : List Fn) : Prop := xs.length = fs.length ∧ ∀ (i : Nat) x f, xs[i]? = some x → fs[i]? = some f → FnM w X x f
theorem FnM.onlyX {w w' : World} {X : Nat → Prop} {x : FC} {f : Fn} (h : FnM w X x f) (ho : OnlyX X w w') : FnM w' X x f := ⟨h.p, h.r, h.locs.onlyX h.lf ho, h.lf, h.ins.onlyX h.jf ho, h.jf, h.ok⟩
theorem FnsM.onlyX {w w' : World} {X : Nat → Prop} {xs : List FC} {fs : List Fn} (h : FnsM w X xs fs) (ho : OnlyX X w w') : FnsM w' X xs fs := ⟨h.1, fun i x f h1 h2 => (h.2 i x f h1 h2).onlyX ho⟩
theorem FnsM.mono {w : World} {X Y : Nat → Prop} {xs : List FC} {fs : List Fn} (h : FnsM w X xs fs) (hy : ∀ i, Y i → X i) : FnsM w Y xs fs := ⟨h.1, fun i x f h1 h2 => by obtain ⟨a, b, c, d, e, j, k⟩ := h.2 i x f h1 h2; exact ⟨a, b, c, d.mono hy, e, j.mono hy, k⟩⟩
theorem set_same {α : Type} {l : List α} {k : Nat} {a : α} (h : l[k]? = some a) : l.set k a = l := by
  obtain ⟨hk, rfl⟩ := List.getElem?_eq_some_iff.1 h
  exact List.set_getElem_self hk
theorem set_case {α : Type} {l : List α} {k i : Nat} {a b : α} (h : (l.set k a)[i]? = some b) : (i = k ∧ b = a) ∨ (i ≠ k ∧ l[i]? = some b) := by
  by_cases hi : i = k
  · left
    subst hi
    rw [List.getElem?_set_self'] at h
    cases hl : l[i]? with
    | none => rw [hl] at h; cases h
    | some c => rw [hl] at h; cases h; exact ⟨rfl, rfl⟩
  · right
    rw [List.getElem?_set_ne (Ne.symm hi)] at h
    exact ⟨hi, h⟩
theorem FnsM.set {w : World} {X : Nat → Prop} {xs : List FC} {fs : List Fn} {x : FC} {f : Fn} (h : FnsM w X xs fs) (k : Nat) (hx : FnM w X x f) : FnsM w X (xs.set k x) (fs.set k f) := by
  refine ⟨by simp [h.1], fun i y g h1 h2 => ?_⟩
  rcases set_case h1 with ⟨rfl, rfl⟩ | ⟨hi, h1⟩
  · rcases set_case h2 with ⟨-, rfl⟩ | ⟨hi, -⟩
    · exact hx
    · exact absurd rfl hi
  · rcases set_case h2 with ⟨rfl, -⟩ | ⟨-, h2⟩
    · exact absurd rfl hi
    · exact h.2 i y g h1 h2
/-- a function whose instructions are made: they fit -/
structure DoneF (ns : Nat) (fns : List Fn) (nats : List Int) (f : Fn) : Prop where
  n1 : 1 ≤ f.ins.length
  n26 : f.ins.length ≤ 26
  last : ∃ x, f.ins[f.ins.length - 1]? = some x ∧ x.op = 25
  each : ∀ x ∈ f.ins, suitM ns f.ins.length fns nats f.locs f.r x = true ∧ x.ok64
/-- the functions below i are made, the others have no instructions -/
def Stage (i ns : Nat) (fns0 : List Fn) (nats : List Int) (xs : List FC) (fs : List Fn) : Prop := ∀ (j : Nat) x f, xs[j]? = some x → fs[j]? = some f → (j < i → DoneF ns fns0 nats f) ∧ (i ≤ j → x.B = none ∧ x.m = 0 ∧ x.e = 0 ∧ f.ins = [])
theorem Stage.set {i ns : Nat} {fns0 : List Fn} {nats : List Int} {xs : List FC} {fs : List Fn} {x : FC} {f : Fn} (h : Stage i ns fns0 nats xs fs) (hf : DoneF ns fns0 nats f) : Stage (i + 1) ns fns0 nats (xs.set i x) (fs.set i f) := fun j y g h1 h2 => by
  rcases set_case h1 with ⟨rfl, rfl⟩ | ⟨hi, h1⟩
  · rcases set_case h2 with ⟨-, rfl⟩ | ⟨hi, -⟩
    · exact ⟨fun _ => hf, fun h => by omega⟩
    · exact absurd rfl hi
  · rcases set_case h2 with ⟨rfl, -⟩ | ⟨-, h2⟩
    · exact absurd rfl hi
    · obtain ⟨q1, q2⟩ := h j y g h1 h2
      exact ⟨fun hj => q1 (by omega), fun hj => q2 (by omega)⟩
theorem SigEq.set {fs gs : List Fn} {i : Nat} {f g : Fn} (h : SigEq fs gs) (hf : gs[i]? = some f) (h1 : f.p = g.p) (h2 : f.r = g.r) (h3 : f.locs = g.locs) : SigEq fs (gs.set i g) := by
  refine ⟨by rw [h.1]; simp, fun j a b ha hb => ?_⟩
  rcases set_case hb with ⟨rfl, rfl⟩ | ⟨hi, hb⟩
  · obtain ⟨q1, q2, q3⟩ := h.2 j a f ha hf
    exact ⟨q1.trans h1, q2.trans h2, q3.trans h3⟩
  · exact h.2 j a b ha hb
theorem SigEq.refl {fs : List Fn} : SigEq fs fs := ⟨rfl, fun i f g h1 h2 => by rw [h1] at h2; cases h2; exact ⟨rfl, rfl, rfl⟩⟩
theorem SigEq.heads {fs gs : List Fn} (h : SigEq fs gs) (h0 : HeadsOk fs) : HeadsOk gs := by
  obtain ⟨f, hf, h1, h2⟩ := h0
  have hl : 0 < gs.length := by rw [← h.1]; exact (List.getElem?_eq_some_iff.1 hf).1
  obtain ⟨q1, q2, -⟩ := h.2 0 f _ hf (List.getElem?_eq_getElem hl)
  exact ⟨_, List.getElem?_eq_getElem hl, q1.symm.trans h1, q2.symm.trans h2⟩
def HdOk (h : HD) : Prop := h.k = 1 ∧ 0 ≤ h.len ∧ h.len ≤ 3 ∧ 0 ≤ h.m ∧ h.m < (2 : Int) ^ h.len.toNat
/-- what is so of a program that was made -/
structure MadeOk (P : Prg) : Prop where
  ns1 : 1 ≤ P.shs.length
  ns3 : P.shs.length ≤ 3
  shs : ∀ h ∈ P.shs, HdOk h
  nf1 : 1 ≤ P.fns.length
  nf3 : P.fns.length ≤ 3
  heads : HeadsOk P.fns
  fok : ∀ f ∈ P.fns, HeadOk f.p f.locs f.r
  fns : ∀ f ∈ P.fns, DoneF P.shs.length P.fns P.nats f
  nn2 : P.nats.length ≤ 2
  nats : ∀ q ∈ P.nats, 0 ≤ q ∧ q ≤ 2
theorem DoneF.sig {ns : Nat} {fs gs : List Fn} {nats : List Int} {f : Fn} (h : DoneF ns fs nats f) (hs : SigEq fs gs) : DoneF ns gs nats f :=
  ⟨h.n1, h.n26, h.last, fun x hx => ⟨by rw [← suitM_sig hs]; exact (h.each x hx).1, (h.each x hx).2⟩⟩
/-- the contract of instruction -/
def InstrC : Prop := ∀ (g t : Nat) (S : Option Addr) (ns cs : Nat) (F : Option Addr) (nf cf : Nat) (N : Option Addr) (nn cn : Nat) (fcs : List FC) (fns : List Fn) (nats : List Int) (p : Int) (A : Option Addr) (n c : Nat) (r : Int) (B : Option Addr) (m d : Nat) (gl : List Int) (pc cnt : Nat) (w : World),
    TapeAt w g t → t ≤ 800000 → Reads w w.heap.size 1 A n c (gl.flatMap intCells) → FarA g n A → HeadOk p gl r → ProgIn w g F nf cf N nn cn fcs fns nats → 1 ≤ ns → ns ≤ 3 → pc ≤ cnt → cnt ≤ 30 →
    Calls Tryd.prog 56 #[.pointer (some ⟨g, 0, none⟩), prV S ns cs F nf cf N nn cn, fnV p A n c r B m d, .int .i64 pc, .int .i64 cnt] w (RetInstr w g t ns (cnt + 1) fns nats gl r)
/-- a program comes back -/
def RetManaged (w : World) (g t : Nat) (N : Option Addr) (nn cn : Nat) (nats : List Int) (e : Ending) (w' : World) : Prop :=
  ∃ (S : Option Addr) (ns cs : Nat) (F : Option Addr) (nf cf : Nat) (fcs : List FC) (P : Prg) (t' : Nat), e = .returned (prV S ns cs F nf cf N nn cn) ∧ (∀ (X : Nat → Prop) w2, (∀ q, X q → q < w.heap.size) → FarX X nn N → OnlyX X w' w2 → PrAt w2 S ns cs F nf cf N nn cn P fcs) ∧ P.nats = nats ∧ MadeOk P ∧ t' ≤ t + 1200 ∧ TapeAt w' g t' ∧ OnlyX (fun i => i = g) w w'
theorem ret_cells (ix : Nat) : [(⟨25, (ix : Int), 0, 0, 0#64⟩ : NI)].flatMap insCells = [.int .i64 25, .int .i64 (ix : Int), .int .i64 0, .int .i64 0, .int .u64 0] := rfl
theorem own_ret {w : World} {b e s n ix : Nat} {v : Value} {xs : List NI} (h : w.ownsRow b e s v n (xs.flatMap insCells ++ [.int .i64 25, .int .i64 (ix : Int), .int .i64 0, .int .i64 0, .int .u64 0])) : w.ownsRow b e s v n ((xs ++ [(⟨25, (ix : Int), 0, 0, 0#64⟩ : NI)]).flatMap insCells) := by
  rw [List.flatMap_append, ret_cells]
  exact h
theorem shl0 : wrap64 ((2 : Int) ^ min 0 64) = 1 := by unfold wrap64; simp
theorem shl1 : wrap64 ((2 : Int) ^ min 1 64) = 2 := by unfold wrap64; simp
theorem shl2 : wrap64 ((2 : Int) ^ min 2 64) = 4 := by unfold wrap64; simp
theorem shl3 : wrap64 ((2 : Int) ^ min 3 64) = 8 := by unfold wrap64; simp
theorem fcset {fcs : List FC} {i : Nat} {x : FC} {A : Option Addr} {m e : Nat} (h : fcs[i]? = some x) : (fcs.flatMap fcCells).set (i * 4 + 3) (.slice A m e) = (fcs.set i ⟨x.p, x.A, x.n, x.c, x.r, A, m, e⟩).flatMap fcCells :=
  flat_set fcCells_len h (by omega) rfl
theorem progIn_of {w : World} {X : Nat → Prop} {g : Nat} {F : Option Addr} {nf cf : Nat} {N : Option Addr} {nn cn : Nat} {xs ys : List FC} {fs fs0 : List Fn} {nats : List Int} (hM : FnsM w X xs fs) (hS : SigEq fs0 fs) (hX : X g)
    (hfr : Reads w w.heap.size 4 F nf cf (ys.flatMap fcCells)) (hff : FarA g nf F) (hl : ys.length = xs.length) (hy : ∀ (j : Nat) y, ys[j]? = some y → ∃ x, xs[j]? = some x ∧ y.p = x.p ∧ y.A = x.A ∧ y.n = x.n ∧ y.c = x.c ∧ y.r = x.r)
    (hnr : Reads w w.heap.size 1 N nn cn (nats.flatMap intCells)) (hnf : FarA g nn N) (h1 : 1 ≤ nf) (h3 : nf ≤ 3) (h2 : nn ≤ 2) (hq : ∀ q ∈ nats, 0 ≤ q ∧ q ≤ 2) : ProgIn w g F nf cf N nn cn ys fs0 nats := by
  refine ⟨hfr, hff, by rw [hl, hM.1, hS.1], fun i y f hi hf => ?_, hnr, hnf, h1, h3, h2, hq⟩
  obtain ⟨x, hx, e1, e2, e3, e4, e5⟩ := hy i y hi
  have hil : i < fs.length := by rw [← hS.1]; exact (List.getElem?_eq_some_iff.1 hf).1
  have hg := List.getElem?_eq_getElem hil
  obtain ⟨s1, s2, s3⟩ := hS.2 i f _ hf hg
  have hm := hM.2 i x _ hx hg
  exact ⟨by rw [e1, s1]; exact hm.p, by rw [e5, s2]; exact hm.r, by rw [e2, e3, e4, s3]; exact hm.locs, by rw [e2, e3]; exact fun b off hn e hb => hm.lf b off hn e (hb ▸ hX), by rw [s1, s2, s3]; exact hm.ok⟩
end Go.Proofs.YtnnchinpmnpfiaaDoor
/- How made programs are made: Managed. PRINTED BY A PROGRAM (mk_made7.py). -/
namespace Go.Proofs.YtnnchinpmnpfiaaDoor
open Go.ChangeShapes Go.WideShapes Go.RowKit Words

set_option linter.unusedSimpArgs false in
set_option linter.unusedVariables false in
set_option maxRecDepth 100000 in
set_option maxHeartbeats 20000000 in
theorem managed_any (HIN : InstrC) (g t : Nat) (N : Option Addr) (nn cn : Nat) (nats : List Int) (w : World) (hT : TapeAt w g t) (ht : t ≤ 600000) (hN : Reads w w.heap.size 1 N nn cn (nats.flatMap intCells)) (hNF : FarA g nn N) (hnn : nn ≤ 2) (hnats : ∀ q ∈ nats, 0 ≤ q ∧ q ≤ 2) : Calls Tryd.prog 40 #[.pointer (some ⟨g, 0, none⟩), .slice N nn cn] w (RetManaged w g t N nn cn nats) := by
  have hgl := hT.lt
  have HINC := Lib.hid HIN
  have HNX := Lib.hid (show ∀ wq tq (k : Int), TapeAt wq g tq → tq ≤ 900000 → k ≤ 1000 → Calls Tryd.prog 39 #[.pointer (some ⟨g, 0, none⟩), .int .i64 k] wq (RetNext wq g tq k) from fun wq tq k hq h9 hk => next_any g tq k wq hq (by omega) (by omega))
  have HG1 := Lib.hid (show ∀ (a b : World), a.grownBy b (some g) → OnlyX (fun i => i = g) a b from fun a b h => (OnlyX.grown h).mono (fun i _ e => by injection e with e; exact e.symm))
  have HNATS := Lib.hid hnats
  have HNN := Lib.hid hN
  have HNF := Lib.hid hNF
  clear HIN hnats hN hNF
  have hB0 : Below w.heap.size w (w.alloc (.cells #[.slice none 0 0, .slice none 0 0, .slice none 0 0] 26)) := keep_alloc (Below.refl _ _) _
  have R0 := Blk.new w #[.slice none 0 0, .slice none 0 0, .slice none 0 0] 26
  have hT0 := hT.below hB0
  have HX0 := Lib.hid (show OnlyX (fun i => i = g) w (w.alloc (.cells #[.slice none 0 0, .slice none 0 0, .slice none 0 0] 26)) from OnlyX.belowU hB0)
  clear hB0 hT
  go_enter Tryd.func40, Tryd.ntmps40
  go_wp2_with fail
  obtain ⟨w0, hw0⟩ : ∃ w0, w.alloc (.cells #[.slice none 0 0, .slice none 0 0, .slice none 0 0] 26) = w0 := ⟨_, rfl⟩
  rw [hw0] at R0 hT0 HX0 ⊢
  have hs0 : w0.heap.size = w.heap.size + 1 := by rw [← hw0]; simp
  obtain ⟨r0, hr0⟩ : ∃ r0, w.heap.size = r0 := ⟨_, rfl⟩
  rw [hr0] at R0 hs0 ⊢
  have hgr : g < r0 := by omega
  have HR0 := Lib.hid hr0
  clear hw0 hr0
  refine (heads_any g t w0 hT0 (by omega)).mono ?_
  rintro e w1 ⟨F, nf, cf, fcs, fns, t1, rfl, hown1, hrow1, hfl, hok, hnf1, hnf3, ht1, hT1, hX1⟩
  obtain ⟨bF, cap, cur, hv, hge, hBF, hle, hcap, hcs, htk⟩ := own_block hown1 (by omega) (by omega)
  injection hv with hv1 hv2 hv3
  subst hv1
  have hbF1 : bF < w1.heap.size := hBF.lt
  have hrF : r0 < bF := by omega
  have R1 := R0.onlyX (by omega) hX1
  have HM1 := Lib.hid (show FnsM w1 (fun i => i ≤ r0 ∨ i = bF) fcs fns ∧ Stage 0 nf fns nats fcs fns from ⟨⟨hrow1.1, fun i x f h1 h2 => by
    obtain ⟨q1, q2, q3, q4, q5, q6, q7, q8, q9⟩ := hrow1.2 i x f h1 h2
    exact ⟨q1, q2, q3, fun b off hn e hx => by have h4 := q4 b off hn e; rcases hx with hx | hx; (· omega); (· exact h4.2 (by rw [hx]; rfl)), by rw [q6, q7, q8, q9]; exact Reads.nil, by rw [q7]; exact FarX.nil, q5⟩⟩, fun j x f h1 h2 => ⟨fun h => by omega, fun _ => by obtain ⟨q1, q2, q3, q4, q5, q6, q7, q8, q9⟩ := hrow1.2 j x f h1 h2; exact ⟨q6, q7, q8, q9⟩⟩⟩)
  have HOK := Lib.hid hok
  have HFL := Lib.hid hfl
  have HX1 := Lib.hid (HX0.out.trans hX1)
  clear hv2 hv3 hcs htk hBF hrow1 hok hfl R0 hT0 hle hcap hX1 HX0
  go_wp2_with fail
  have hba : Below w1.heap.size w1 (w1.alloc (.cells #[.slice none 0 0, .slice (some ⟨bF, 0, none⟩) nf cf, .slice N nn cn] 26)) := keep_alloc (Below.refl _ _) _
  have P2 := Blk.new w1 #[.slice none 0 0, .slice (some ⟨bF, 0, none⟩) nf cf, .slice N nn cn] 26
  have R2 := R1.below hba
  have hown2 := own_keep hown1 hba
  have hT2 := hT1.below hba
  have HX2 := Lib.hid (show OnlyX (fun i => i = g) w1 (w1.alloc (.cells #[.slice none 0 0, .slice (some ⟨bF, 0, none⟩) nf cf, .slice N nn cn] 26)) from OnlyX.belowU hba)
  obtain ⟨w2, hw2⟩ : ∃ w2, w1.alloc (.cells #[.slice none 0 0, .slice (some ⟨bF, 0, none⟩) nf cf, .slice N nn cn] 26) = w2 := ⟨_, rfl⟩
  rw [hw2] at P2 R2 hown2 hT2 HX2 ⊢
  obtain ⟨bp, hbp⟩ : ∃ bp, w1.heap.size = bp := ⟨_, rfl⟩
  rw [hbp] at P2 hbF1 ⊢
  have HBP := Lib.hid hbp
  clear hw2 hbp hba R1 hown1 hT1
  refine (HNX.out _ _ 3 hT2 (by omega) (by omega)).mono ?_
  rintro e w3 ⟨r3, rfl, h30, h31, t3, ht3, hT3, hg3⟩
  have h32 : r3 < 3 := by omega
  have w13 : IntKind.i64.wrap (1 + r3) = 1 + r3 := IntWalk.i64_in _ (by omega)
  have P3 := P2.onlyN hg3 (by omega)
  have R3 := R2.onlyN hg3 (by omega)
  have hown3 := own_onlyX hown2 (HG1.out _ _ hg3) (fun i hi e => by have := (hown2.lt i hi).1; omega)
  have HX3 := Lib.hid (HX2.out.trans (HG1.out _ _ hg3))
  have hs3 : bp < w3.heap.size := P3.lt
  clear h31 hg3 hT2 P2 R2 hown2 HX2
  go_wp2_with fail
  go_loopw [6] (fun x wq => ∃ (j : Nat) (z : Int) (S : Option Addr) (cs : Nat) (shs : List HD) (tq : Nat), x = .int .i64 z ∧ 0 ≤ z ∧ z + j = 1 + r3 ∧ shs.length = j ∧ (∀ h ∈ shs, HdOk h) ∧ wq.ownsRow (bp + 1) 73 3 (.slice S j cs) j (shs.flatMap hdCells) ∧ Blk wq bp 26 #[.slice S j cs, .slice (some ⟨bF, 0, none⟩) nf cf, .slice N nn cn] ∧ TapeAt wq g tq ∧ tq ≤ t3 + 2 * j ∧ OnlyX (fun i => i = g ∨ bp ≤ i) w3 wq) (fun x _ => (intOf x).toNat)
  case atStart => exact ⟨0, _, none, 0, [], t3, rfl, by omega, by omega, rfl, fun q hq => by simp at hq, World.ownsRow_nil _ _ _ _, P3, hT3, by omega, OnlyX.refl⟩
  case round =>
    obtain ⟨j, z, S, cs, shs, t4, rfl, hz0, hzj, hsl, hsok, hownS, P4, hT4, ht4, hX4⟩ := hrel
    have HSL := Lib.hid hsl
    have HSOK := Lib.hid hsok
    have HZJ := Lib.hid hzj
    have hj3 : j ≤ 3 := by omega
    have hz3 : z ≤ 3 := by omega
    clear hsl hsok hT3
    by_cases hz : 0 < z
    · have hd : decide ((0 : Int) < z) = true := decide_eq_true hz
      have wz : IntKind.i64.wrap (z - 1) = z - 1 := IntWalk.i64_in _ (by omega)
      have q1' : j + 1 ≤ maxLen := by unfold maxLen; omega
      have q2' : (j + 1) * 24 ≤ 140737488355328 := by omega
      clear hzj
      go_wp2_with fail
      refine (HNX.out _ _ 4 hT4 (by omega) (by omega)).mono ?_
      rintro e w5 ⟨kk, rfl, hk0, hk1, t5, ht5, hT5, hg5⟩
      have P5 := P4.onlyN hg5 (by omega)
      have hownS5 := own_onlyX hownS (HG1.out _ _ hg5) (fun i hi e => by have := (hownS.lt i hi).1; omega)
      have HX5 := Lib.hid (show OnlyX (fun i => i = g ∨ bp ≤ i) w3 w5 from hX4.trans ((HG1.out _ _ hg5).mono fun i _ e => Or.inl e))
      have hk4 : kk = 0 ∨ kk = 1 ∨ kk = 2 ∨ kk = 3 := by omega
      clear hT4 P4 hownS hX4 hk1 hg5 hk0
      rcases hk4 with rfl | rfl | rfl | rfl
      · skip
        go_upto_region 6 with fail
        have hTc : TapeAt (World.drew w5) g t5 := hT5.below (Below.refl _ _).drew
        have OO : Blk (World.drew w5) bp 26 #[.slice S j cs, .slice (some ⟨bF, 0, none⟩) nf cf, .slice N nn cn] := P5.drew
        have hoc : (World.drew w5).ownsRow (bp + 1) 73 3 (.slice S j cs) j (shs.flatMap hdCells) := own_keep hownS5 (Below.refl _ _).drew
        have o0 := OO.cell 0 _ rfl
        clear hT5 P5 hownS5
        refine wp_region_noPanic ?_
        refine wp_region_held_drew (S := fun u => OnlyX (fun i => i = g ∨ bp ≤ i) w5 u) (by kernel_rfl) (OnlyX.refl.drew) (fun hHeld => ?_)
        refine wpAnyH_take (i := 0) (v := ?_) rfl (by kernel_rfl) (by kernel_rfl) (by kernel_rfl) (fun _ _ _ h => h) (Or.inl ⟨by rfl, ?_⟩) (by assumption) ?_
        rotate_left
        · intro wq hSw; clear hSw; go_simp; (try with_reducible rfl)
        (try simp only [List.getElem_toArray, List.getElem_cons_zero, List.getElem_cons_succ, Act.put, List.setIfInBounds_toArray, List.set_cons_zero, List.set_cons_succ])
        refine wpAnyH_take (i := 2) (v := ?_) rfl (by kernel_rfl) (by kernel_rfl) (by kernel_rfl) (fun _ _ _ h => h) (Or.inl ⟨by rfl, ?_⟩) (by assumption) ?_
        rotate_left
        · intro wq hSw; clear hSw; go_simp; (try with_reducible rfl)
        (try simp only [List.getElem_toArray, List.getElem_cons_zero, List.getElem_cons_succ, Act.put, List.setIfInBounds_toArray, List.set_cons_zero, List.set_cons_succ])
        refine wpAnyH_take (i := 3) (v := ?_) rfl (by kernel_rfl) (by kernel_rfl) (by kernel_rfl) (fun _ _ _ h => h) (Or.inl ⟨by rfl, ?_⟩) (by assumption) ?_
        rotate_left
        · intro wq hSw; clear hSw; go_simp; (try with_reducible rfl)
        (try simp only [List.getElem_toArray, List.getElem_cons_zero, List.getElem_cons_succ, Act.put, List.setIfInBounds_toArray, List.set_cons_zero, List.set_cons_succ])
        refine wpAnyH_take (i := 4) (v := ?_) rfl (by kernel_rfl) (by kernel_rfl) (by kernel_rfl) (fun _ _ _ h => h) (Or.inl ⟨by rfl, ?_⟩) (by assumption) ?_
        rotate_left
        · intro wq hSw; clear hSw; go_simp; (try with_reducible rfl)
        (try simp only [List.getElem_toArray, List.getElem_cons_zero, List.getElem_cons_succ, Act.put, List.setIfInBounds_toArray, List.set_cons_zero, List.set_cons_succ])
        refine wpAnyH_take (i := 5) (v := ?_) rfl (by kernel_rfl) (by kernel_rfl) (by kernel_rfl) (fun _ _ _ h => h) (Or.inl ⟨by rfl, ?_⟩) (by assumption) ?_
        rotate_left
        · intro wq hSw; clear hSw; go_simp; (try with_reducible rfl)
        (try simp only [List.getElem_toArray, List.getElem_cons_zero, List.getElem_cons_succ, Act.put, List.setIfInBounds_toArray, List.set_cons_zero, List.set_cons_succ])
        refine wpAnyH_take (i := 6) (v := ?_) rfl (by kernel_rfl) (by kernel_rfl) (by kernel_rfl) (fun _ _ _ h => h) (Or.inl ⟨by rfl, ?_⟩) (by assumption) ?_
        rotate_left
        · intro wq hSw; clear hSw; go_simp; (try with_reducible rfl)
        (try simp only [List.getElem_toArray, List.getElem_cons_zero, List.getElem_cons_succ, Act.put, List.setIfInBounds_toArray, List.set_cons_zero, List.set_cons_succ])
        refine wpAnyH_ready (rs := [1, 7]) (by kernel_rfl) (by simp) ?_
        refine AllReadyH.cons (i := 1) (by rfl) ?_ (AllReadyH.cons (i := 7) (by rfl) ?_ (AllReadyH.nil))
        · skip
          intro K' hK
          simp only [List.getElem_toArray, List.getElem_cons_zero, List.getElem_cons_succ]
          refine if_yes (by kernel_rfl) ?_
          go_big_op
          refine hK.out _ _ ?_ (fun hHeld2 => ?_)
          · exact hHeld
          clear hK K' hHeld
          have hHeld := hHeld2
          clear hHeld2
          (try simp only [List.getElem_toArray, List.getElem_cons_zero, List.getElem_cons_succ, Act.put, List.setIfInBounds_toArray, List.set_cons_zero, List.set_cons_succ])
          refine wpAnyH_ready (rs := [7]) (by kernel_rfl) (by simp) ?_
          refine AllReadyH.cons (i := 7) (by rfl) ?_ (AllReadyH.nil)
          intro K' hK
          simp only [List.getElem_toArray, List.getElem_cons_zero, List.getElem_cons_succ]
          refine if_yes (by kernel_rfl) ?_
          go_big_op
          (go_at_call 39; rw [show wrap64 ((2 : Int) ^ min 0 64) = 1 from shl0]; refine (HNX.out _ _ 1 hTc (by omega) (by omega)).mono ?_; rintro e w6 ⟨r6, rfl, h60, h61, t6, ht6, hTc', hg6⟩)
          refine hK.out _ _ ?_ (fun hHeld2 => ?_)
          · exact hHeld.trans ((HG1.out _ _ hg6).mono (fun i _ e => Or.inl e))
          clear hK K' hHeld
          have hHeld := hHeld2
          clear hHeld2
          (try simp only [List.getElem_toArray, List.getElem_cons_zero, List.getElem_cons_succ, Act.put, List.setIfInBounds_toArray, List.set_cons_zero, List.set_cons_succ])
          have OO := OO.onlyN hg6 (by omega)
          have hoc := own_onlyX hoc (HG1.out _ _ hg6) (fun i hi e => by have := (hoc.lt i hi).1; omega)
          have hTc := hTc'
          have o0 := OO.cell 0 _ rfl
          have h62 : r6 < 1 := by omega
          clear hTc' h61 hg6
          have w6u : IntKind.u32.wrap r6 = r6 := IntWalk.u32_in _ (by omega)
          refine wpAnyH_take (i := 8) (v := ?_) rfl (by kernel_rfl) (by kernel_rfl) (by kernel_rfl) (fun _ _ _ h => h) (Or.inl ⟨by rfl, ?_⟩) (by assumption) ?_
          rotate_left
          · intro wq hSw; clear hSw; go_simp; (try with_reducible rfl)
          (try simp only [List.getElem_toArray, List.getElem_cons_zero, List.getElem_cons_succ, Act.put, List.setIfInBounds_toArray, List.set_cons_zero, List.set_cons_succ])
          refine wpAnyH_take (i := 9) (v := ?_) rfl (by kernel_rfl) (by kernel_rfl) (by kernel_rfl) (fun _ _ _ h => h) (Or.inl ⟨by rfl, ?_⟩) (by assumption) ?_
          rotate_left
          · intro wq hSw; clear hSw; go_simp; (try with_reducible rfl)
          (try simp only [List.getElem_toArray, List.getElem_cons_zero, List.getElem_cons_succ, Act.put, List.setIfInBounds_toArray, List.set_cons_zero, List.set_cons_succ])
          refine wpAnyH_ready (rs := [10]) (by kernel_rfl) (by simp) ?_
          refine AllReadyH.cons (i := 10) (by rfl) ?_ (AllReadyH.nil)
          intro K' hK
          simp only [List.getElem_toArray, List.getElem_cons_zero, List.getElem_cons_succ]
          refine if_yes (by kernel_rfl) ?_
          go_big_op
          refine hK.out _ _ ?_ (fun hHeld2 => ?_)
          · exact hHeld.alloc _
          clear hK K' hHeld
          have hHeld := hHeld2
          clear hHeld2
          (try simp only [List.getElem_toArray, List.getElem_cons_zero, List.getElem_cons_succ, Act.put, List.setIfInBounds_toArray, List.set_cons_zero, List.set_cons_succ])
          have hfr := Reads.freshAs w6 #[.int .i64 1, .int .i64 0, .int .u32 r6] 73 3 1 [.int .i64 1, .int .i64 0, .int .u32 r6] rfl rfl (by decide)
          have hba : Below w6.heap.size w6 (w6.alloc (.cells #[.int .i64 1, .int .i64 0, .int .u32 r6] 73)) := keep_alloc (Below.refl _ _) _
          have OO := OO.below hba
          have hoc := own_keep hoc hba
          have hTc := hTc.below hba
          have o0 := OO.cell 0 _ rfl
          clear hba
          refine wpAnyH_ready (rs := [11]) (by kernel_rfl) (by simp) ?_
          refine AllReadyH.cons (i := 11) (by rfl) ?_ (AllReadyH.nil)
          intro K' hK
          refine step_appB rfl _ _ _ (by rfl) tyRHds (by rfl) hoc (by rfl) hfr (by simp [Value.oneCell']) q1' q2' (by have := OO.lt; simp at this ⊢; omega) ?_; intro v' w9 hown9 hg9 hbk9; obtain ⟨A9, c9, rfl, -⟩ := Reads.own hown9
          refine hK.out _ _ ?_ (fun hHeld2 => ?_)
          · exact hHeld.row hg9 (fun i hi _ => Or.inr (by have := (hoc.lt i hi).1; omega))
          clear hK K' hHeld
          have hHeld := hHeld2
          clear hHeld2
          (try simp only [List.getElem_toArray, List.getElem_cons_zero, List.getElem_cons_succ, Act.put, List.setIfInBounds_toArray, List.set_cons_zero, List.set_cons_succ])
          have OO := OO.onlyX (X := fun i => (Value.slice S j cs).ownBlock = some i) (fun e => by have := (hoc.lt _ e).1; omega) (OnlyX.grown hg9)
          have o0 := OO.cell 0 _ rfl
          have off := OO.free
          have hTc := tape_row hTc hg9 (fun e => by have := (hoc.lt _ e).1; omega)
          refine wpAnyH_take (i := 12) (v := ?_) rfl (by kernel_rfl) (by kernel_rfl) (by kernel_rfl) (fun _ _ _ h => h) (Or.inl ⟨by rfl, ?_⟩) (by assumption) ?_
          rotate_left
          · intro wq hSw; clear hSw; go_simp; (try with_reducible rfl)
          (try simp only [List.getElem_toArray, List.getElem_cons_zero, List.getElem_cons_succ, Act.put, List.setIfInBounds_toArray, List.set_cons_zero, List.set_cons_succ])
          refine wpAnyH_ready (rs := [13]) (by kernel_rfl) (by simp) ?_
          refine AllReadyH.cons (i := 13) (by rfl) ?_ (AllReadyH.nil)
          intro K' hK
          simp only [List.getElem_toArray, List.getElem_cons_zero, List.getElem_cons_succ]
          refine if_yes (by kernel_rfl) ?_
          go_big_op
          refine hK.out _ _ ?_ (fun hHeld2 => ?_)
          · exact hHeld.set (p := ⟨bp, 0, none⟩) (fun _ => Or.inr (Nat.le_refl _)) _
          clear hK K' hHeld
          have hHeld := hHeld2
          clear hHeld2
          (try simp only [List.getElem_toArray, List.getElem_cons_zero, List.getElem_cons_succ, Act.put, List.setIfInBounds_toArray, List.set_cons_zero, List.set_cons_succ])
          refine wpAnyH_done (by kernel_rfl) ?_ _
          refine NoPanic.normal ?_
          have hTf := hTc.setN (p := ⟨bp, 0, none⟩) (by show g < bp; omega) (.slice A9 (j + 1) c9)
          have hOf := OO.set 0 (.slice A9 (j + 1) c9)
          have hwf := ownsRow_setCell_below hown9 (a := ⟨bp, 0, none⟩) (by show bp < bp + 1; omega) (.slice A9 (j + 1) c9)
          have hxf := HX5.out.trans hHeld
          clear o0 off OO hTc hoc hfr
          go_wp2_with fail
          go_roundw
          case rel =>
            refine ⟨j + 1, z - 1, A9, c9, shs ++ [⟨1, 0, r6⟩], t6, rfl, by omega, by have := HZJ.out; omega, by simp [HSL.out], ?_, ?_, hOf, hTf, by omega, hxf⟩
            · intro q hq
              rcases List.mem_append.1 hq with hq | hq
              · exact HSOK.out q hq
              · simp only [List.mem_singleton] at hq; subst hq; exact ⟨rfl, by show (0 : Int) ≤ 0; omega, by show (0 : Int) ≤ 3; omega, h60, by show r6 < (1 : Int); omega⟩
            · rw [List.flatMap_append]; exact hwf
          case measure => simp [intOf]; omega
        · skip
          intro K' hK
          simp only [List.getElem_toArray, List.getElem_cons_zero, List.getElem_cons_succ]
          refine if_yes (by kernel_rfl) ?_
          go_big_op
          (go_at_call 39; rw [show wrap64 ((2 : Int) ^ min 0 64) = 1 from shl0]; refine (HNX.out _ _ 1 hTc (by omega) (by omega)).mono ?_; rintro e w6 ⟨r6, rfl, h60, h61, t6, ht6, hTc', hg6⟩)
          refine hK.out _ _ ?_ (fun hHeld2 => ?_)
          · exact hHeld.trans ((HG1.out _ _ hg6).mono (fun i _ e => Or.inl e))
          clear hK K' hHeld
          have hHeld := hHeld2
          clear hHeld2
          (try simp only [List.getElem_toArray, List.getElem_cons_zero, List.getElem_cons_succ, Act.put, List.setIfInBounds_toArray, List.set_cons_zero, List.set_cons_succ])
          have OO := OO.onlyN hg6 (by omega)
          have hoc := own_onlyX hoc (HG1.out _ _ hg6) (fun i hi e => by have := (hoc.lt i hi).1; omega)
          have hTc := hTc'
          have o0 := OO.cell 0 _ rfl
          have h62 : r6 < 1 := by omega
          clear hTc' h61 hg6
          have w6u : IntKind.u32.wrap r6 = r6 := IntWalk.u32_in _ (by omega)
          refine wpAnyH_take (i := 8) (v := ?_) rfl (by kernel_rfl) (by kernel_rfl) (by kernel_rfl) (fun _ _ _ h => h) (Or.inl ⟨by rfl, ?_⟩) (by assumption) ?_
          rotate_left
          · intro wq hSw; clear hSw; go_simp; (try with_reducible rfl)
          (try simp only [List.getElem_toArray, List.getElem_cons_zero, List.getElem_cons_succ, Act.put, List.setIfInBounds_toArray, List.set_cons_zero, List.set_cons_succ])
          refine wpAnyH_take (i := 9) (v := ?_) rfl (by kernel_rfl) (by kernel_rfl) (by kernel_rfl) (fun _ _ _ h => h) (Or.inl ⟨by rfl, ?_⟩) (by assumption) ?_
          rotate_left
          · intro wq hSw; clear hSw; go_simp; (try with_reducible rfl)
          (try simp only [List.getElem_toArray, List.getElem_cons_zero, List.getElem_cons_succ, Act.put, List.setIfInBounds_toArray, List.set_cons_zero, List.set_cons_succ])
          refine wpAnyH_ready (rs := [1, 10]) (by kernel_rfl) (by simp) ?_
          refine AllReadyH.cons (i := 1) (by rfl) ?_ (AllReadyH.cons (i := 10) (by rfl) ?_ (AllReadyH.nil))
          · skip
            intro K' hK
            simp only [List.getElem_toArray, List.getElem_cons_zero, List.getElem_cons_succ]
            refine if_yes (by kernel_rfl) ?_
            go_big_op
            refine hK.out _ _ ?_ (fun hHeld2 => ?_)
            · exact hHeld
            clear hK K' hHeld
            have hHeld := hHeld2
            clear hHeld2
            (try simp only [List.getElem_toArray, List.getElem_cons_zero, List.getElem_cons_succ, Act.put, List.setIfInBounds_toArray, List.set_cons_zero, List.set_cons_succ])
            refine wpAnyH_ready (rs := [10]) (by kernel_rfl) (by simp) ?_
            refine AllReadyH.cons (i := 10) (by rfl) ?_ (AllReadyH.nil)
            intro K' hK
            simp only [List.getElem_toArray, List.getElem_cons_zero, List.getElem_cons_succ]
            refine if_yes (by kernel_rfl) ?_
            go_big_op
            refine hK.out _ _ ?_ (fun hHeld2 => ?_)
            · exact hHeld.alloc _
            clear hK K' hHeld
            have hHeld := hHeld2
            clear hHeld2
            (try simp only [List.getElem_toArray, List.getElem_cons_zero, List.getElem_cons_succ, Act.put, List.setIfInBounds_toArray, List.set_cons_zero, List.set_cons_succ])
            have hfr := Reads.freshAs w6 #[.int .i64 1, .int .i64 0, .int .u32 r6] 73 3 1 [.int .i64 1, .int .i64 0, .int .u32 r6] rfl rfl (by decide)
            have hba : Below w6.heap.size w6 (w6.alloc (.cells #[.int .i64 1, .int .i64 0, .int .u32 r6] 73)) := keep_alloc (Below.refl _ _) _
            have OO := OO.below hba
            have hoc := own_keep hoc hba
            have hTc := hTc.below hba
            have o0 := OO.cell 0 _ rfl
            clear hba
            refine wpAnyH_ready (rs := [11]) (by kernel_rfl) (by simp) ?_
            refine AllReadyH.cons (i := 11) (by rfl) ?_ (AllReadyH.nil)
            intro K' hK
            refine step_appB rfl _ _ _ (by rfl) tyRHds (by rfl) hoc (by rfl) hfr (by simp [Value.oneCell']) q1' q2' (by have := OO.lt; simp at this ⊢; omega) ?_; intro v' w9 hown9 hg9 hbk9; obtain ⟨A9, c9, rfl, -⟩ := Reads.own hown9
            refine hK.out _ _ ?_ (fun hHeld2 => ?_)
            · exact hHeld.row hg9 (fun i hi _ => Or.inr (by have := (hoc.lt i hi).1; omega))
            clear hK K' hHeld
            have hHeld := hHeld2
            clear hHeld2
            (try simp only [List.getElem_toArray, List.getElem_cons_zero, List.getElem_cons_succ, Act.put, List.setIfInBounds_toArray, List.set_cons_zero, List.set_cons_succ])
            have OO := OO.onlyX (X := fun i => (Value.slice S j cs).ownBlock = some i) (fun e => by have := (hoc.lt _ e).1; omega) (OnlyX.grown hg9)
            have o0 := OO.cell 0 _ rfl
            have off := OO.free
            have hTc := tape_row hTc hg9 (fun e => by have := (hoc.lt _ e).1; omega)
            refine wpAnyH_take (i := 12) (v := ?_) rfl (by kernel_rfl) (by kernel_rfl) (by kernel_rfl) (fun _ _ _ h => h) (Or.inl ⟨by rfl, ?_⟩) (by assumption) ?_
            rotate_left
            · intro wq hSw; clear hSw; go_simp; (try with_reducible rfl)
            (try simp only [List.getElem_toArray, List.getElem_cons_zero, List.getElem_cons_succ, Act.put, List.setIfInBounds_toArray, List.set_cons_zero, List.set_cons_succ])
            refine wpAnyH_ready (rs := [13]) (by kernel_rfl) (by simp) ?_
            refine AllReadyH.cons (i := 13) (by rfl) ?_ (AllReadyH.nil)
            intro K' hK
            simp only [List.getElem_toArray, List.getElem_cons_zero, List.getElem_cons_succ]
            refine if_yes (by kernel_rfl) ?_
            go_big_op
            refine hK.out _ _ ?_ (fun hHeld2 => ?_)
            · exact hHeld.set (p := ⟨bp, 0, none⟩) (fun _ => Or.inr (Nat.le_refl _)) _
            clear hK K' hHeld
            have hHeld := hHeld2
            clear hHeld2
            (try simp only [List.getElem_toArray, List.getElem_cons_zero, List.getElem_cons_succ, Act.put, List.setIfInBounds_toArray, List.set_cons_zero, List.set_cons_succ])
            refine wpAnyH_done (by kernel_rfl) ?_ _
            refine NoPanic.normal ?_
            have hTf := hTc.setN (p := ⟨bp, 0, none⟩) (by show g < bp; omega) (.slice A9 (j + 1) c9)
            have hOf := OO.set 0 (.slice A9 (j + 1) c9)
            have hwf := ownsRow_setCell_below hown9 (a := ⟨bp, 0, none⟩) (by show bp < bp + 1; omega) (.slice A9 (j + 1) c9)
            have hxf := HX5.out.trans hHeld
            clear o0 off OO hTc hoc hfr
            go_wp2_with fail
            go_roundw
            case rel =>
              refine ⟨j + 1, z - 1, A9, c9, shs ++ [⟨1, 0, r6⟩], t6, rfl, by omega, by have := HZJ.out; omega, by simp [HSL.out], ?_, ?_, hOf, hTf, by omega, hxf⟩
              · intro q hq
                rcases List.mem_append.1 hq with hq | hq
                · exact HSOK.out q hq
                · simp only [List.mem_singleton] at hq; subst hq; exact ⟨rfl, by show (0 : Int) ≤ 0; omega, by show (0 : Int) ≤ 3; omega, h60, by show r6 < (1 : Int); omega⟩
              · rw [List.flatMap_append]; exact hwf
            case measure => simp [intOf]; omega
          · skip
            intro K' hK
            simp only [List.getElem_toArray, List.getElem_cons_zero, List.getElem_cons_succ]
            refine if_yes (by kernel_rfl) ?_
            go_big_op
            refine hK.out _ _ ?_ (fun hHeld2 => ?_)
            · exact hHeld.alloc _
            clear hK K' hHeld
            have hHeld := hHeld2
            clear hHeld2
            (try simp only [List.getElem_toArray, List.getElem_cons_zero, List.getElem_cons_succ, Act.put, List.setIfInBounds_toArray, List.set_cons_zero, List.set_cons_succ])
            have hfr := Reads.freshAs w6 #[.int .i64 1, .int .i64 0, .int .u32 r6] 73 3 1 [.int .i64 1, .int .i64 0, .int .u32 r6] rfl rfl (by decide)
            have hba : Below w6.heap.size w6 (w6.alloc (.cells #[.int .i64 1, .int .i64 0, .int .u32 r6] 73)) := keep_alloc (Below.refl _ _) _
            have OO := OO.below hba
            have hoc := own_keep hoc hba
            have hTc := hTc.below hba
            have o0 := OO.cell 0 _ rfl
            clear hba
            refine wpAnyH_ready (rs := [1]) (by kernel_rfl) (by simp) ?_
            refine AllReadyH.cons (i := 1) (by rfl) ?_ (AllReadyH.nil)
            intro K' hK
            simp only [List.getElem_toArray, List.getElem_cons_zero, List.getElem_cons_succ]
            refine if_yes (by kernel_rfl) ?_
            go_big_op
            refine hK.out _ _ ?_ (fun hHeld2 => ?_)
            · exact hHeld
            clear hK K' hHeld
            have hHeld := hHeld2
            clear hHeld2
            (try simp only [List.getElem_toArray, List.getElem_cons_zero, List.getElem_cons_succ, Act.put, List.setIfInBounds_toArray, List.set_cons_zero, List.set_cons_succ])
            refine wpAnyH_ready (rs := [11]) (by kernel_rfl) (by simp) ?_
            refine AllReadyH.cons (i := 11) (by rfl) ?_ (AllReadyH.nil)
            intro K' hK
            refine step_appB rfl _ _ _ (by rfl) tyRHds (by rfl) hoc (by rfl) hfr (by simp [Value.oneCell']) q1' q2' (by have := OO.lt; simp at this ⊢; omega) ?_; intro v' w9 hown9 hg9 hbk9; obtain ⟨A9, c9, rfl, -⟩ := Reads.own hown9
            refine hK.out _ _ ?_ (fun hHeld2 => ?_)
            · exact hHeld.row hg9 (fun i hi _ => Or.inr (by have := (hoc.lt i hi).1; omega))
            clear hK K' hHeld
            have hHeld := hHeld2
            clear hHeld2
            (try simp only [List.getElem_toArray, List.getElem_cons_zero, List.getElem_cons_succ, Act.put, List.setIfInBounds_toArray, List.set_cons_zero, List.set_cons_succ])
            have OO := OO.onlyX (X := fun i => (Value.slice S j cs).ownBlock = some i) (fun e => by have := (hoc.lt _ e).1; omega) (OnlyX.grown hg9)
            have o0 := OO.cell 0 _ rfl
            have off := OO.free
            have hTc := tape_row hTc hg9 (fun e => by have := (hoc.lt _ e).1; omega)
            refine wpAnyH_take (i := 12) (v := ?_) rfl (by kernel_rfl) (by kernel_rfl) (by kernel_rfl) (fun _ _ _ h => h) (Or.inl ⟨by rfl, ?_⟩) (by assumption) ?_
            rotate_left
            · intro wq hSw; clear hSw; go_simp; (try with_reducible rfl)
            (try simp only [List.getElem_toArray, List.getElem_cons_zero, List.getElem_cons_succ, Act.put, List.setIfInBounds_toArray, List.set_cons_zero, List.set_cons_succ])
            refine wpAnyH_ready (rs := [13]) (by kernel_rfl) (by simp) ?_
            refine AllReadyH.cons (i := 13) (by rfl) ?_ (AllReadyH.nil)
            intro K' hK
            simp only [List.getElem_toArray, List.getElem_cons_zero, List.getElem_cons_succ]
            refine if_yes (by kernel_rfl) ?_
            go_big_op
            refine hK.out _ _ ?_ (fun hHeld2 => ?_)
            · exact hHeld.set (p := ⟨bp, 0, none⟩) (fun _ => Or.inr (Nat.le_refl _)) _
            clear hK K' hHeld
            have hHeld := hHeld2
            clear hHeld2
            (try simp only [List.getElem_toArray, List.getElem_cons_zero, List.getElem_cons_succ, Act.put, List.setIfInBounds_toArray, List.set_cons_zero, List.set_cons_succ])
            refine wpAnyH_done (by kernel_rfl) ?_ _
            refine NoPanic.normal ?_
            have hTf := hTc.setN (p := ⟨bp, 0, none⟩) (by show g < bp; omega) (.slice A9 (j + 1) c9)
            have hOf := OO.set 0 (.slice A9 (j + 1) c9)
            have hwf := ownsRow_setCell_below hown9 (a := ⟨bp, 0, none⟩) (by show bp < bp + 1; omega) (.slice A9 (j + 1) c9)
            have hxf := HX5.out.trans hHeld
            clear o0 off OO hTc hoc hfr
            go_wp2_with fail
            go_roundw
            case rel =>
              refine ⟨j + 1, z - 1, A9, c9, shs ++ [⟨1, 0, r6⟩], t6, rfl, by omega, by have := HZJ.out; omega, by simp [HSL.out], ?_, ?_, hOf, hTf, by omega, hxf⟩
              · intro q hq
                rcases List.mem_append.1 hq with hq | hq
                · exact HSOK.out q hq
                · simp only [List.mem_singleton] at hq; subst hq; exact ⟨rfl, by show (0 : Int) ≤ 0; omega, by show (0 : Int) ≤ 3; omega, h60, by show r6 < (1 : Int); omega⟩
              · rw [List.flatMap_append]; exact hwf
            case measure => simp [intOf]; omega
      · skip
        go_upto_region 6 with fail
        have hTc : TapeAt (World.drew w5) g t5 := hT5.below (Below.refl _ _).drew
        have OO : Blk (World.drew w5) bp 26 #[.slice S j cs, .slice (some ⟨bF, 0, none⟩) nf cf, .slice N nn cn] := P5.drew
        have hoc : (World.drew w5).ownsRow (bp + 1) 73 3 (.slice S j cs) j (shs.flatMap hdCells) := own_keep hownS5 (Below.refl _ _).drew
        have o0 := OO.cell 0 _ rfl
        clear hT5 P5 hownS5
        refine wp_region_noPanic ?_
        refine wp_region_held_drew (S := fun u => OnlyX (fun i => i = g ∨ bp ≤ i) w5 u) (by kernel_rfl) (OnlyX.refl.drew) (fun hHeld => ?_)
        refine wpAnyH_take (i := 0) (v := ?_) rfl (by kernel_rfl) (by kernel_rfl) (by kernel_rfl) (fun _ _ _ h => h) (Or.inl ⟨by rfl, ?_⟩) (by assumption) ?_
        rotate_left
        · intro wq hSw; clear hSw; go_simp; (try with_reducible rfl)
        (try simp only [List.getElem_toArray, List.getElem_cons_zero, List.getElem_cons_succ, Act.put, List.setIfInBounds_toArray, List.set_cons_zero, List.set_cons_succ])
        refine wpAnyH_take (i := 2) (v := ?_) rfl (by kernel_rfl) (by kernel_rfl) (by kernel_rfl) (fun _ _ _ h => h) (Or.inl ⟨by rfl, ?_⟩) (by assumption) ?_
        rotate_left
        · intro wq hSw; clear hSw; go_simp; (try with_reducible rfl)
        (try simp only [List.getElem_toArray, List.getElem_cons_zero, List.getElem_cons_succ, Act.put, List.setIfInBounds_toArray, List.set_cons_zero, List.set_cons_succ])
        refine wpAnyH_take (i := 3) (v := ?_) rfl (by kernel_rfl) (by kernel_rfl) (by kernel_rfl) (fun _ _ _ h => h) (Or.inl ⟨by rfl, ?_⟩) (by assumption) ?_
        rotate_left
        · intro wq hSw; clear hSw; go_simp; (try with_reducible rfl)
        (try simp only [List.getElem_toArray, List.getElem_cons_zero, List.getElem_cons_succ, Act.put, List.setIfInBounds_toArray, List.set_cons_zero, List.set_cons_succ])
        refine wpAnyH_take (i := 4) (v := ?_) rfl (by kernel_rfl) (by kernel_rfl) (by kernel_rfl) (fun _ _ _ h => h) (Or.inl ⟨by rfl, ?_⟩) (by assumption) ?_
        rotate_left
        · intro wq hSw; clear hSw; go_simp; (try with_reducible rfl)
        (try simp only [List.getElem_toArray, List.getElem_cons_zero, List.getElem_cons_succ, Act.put, List.setIfInBounds_toArray, List.set_cons_zero, List.set_cons_succ])
        refine wpAnyH_take (i := 5) (v := ?_) rfl (by kernel_rfl) (by kernel_rfl) (by kernel_rfl) (fun _ _ _ h => h) (Or.inl ⟨by rfl, ?_⟩) (by assumption) ?_
        rotate_left
        · intro wq hSw; clear hSw; go_simp; (try with_reducible rfl)
        (try simp only [List.getElem_toArray, List.getElem_cons_zero, List.getElem_cons_succ, Act.put, List.setIfInBounds_toArray, List.set_cons_zero, List.set_cons_succ])
        refine wpAnyH_take (i := 6) (v := ?_) rfl (by kernel_rfl) (by kernel_rfl) (by kernel_rfl) (fun _ _ _ h => h) (Or.inl ⟨by rfl, ?_⟩) (by assumption) ?_
        rotate_left
        · intro wq hSw; clear hSw; go_simp; (try with_reducible rfl)
        (try simp only [List.getElem_toArray, List.getElem_cons_zero, List.getElem_cons_succ, Act.put, List.setIfInBounds_toArray, List.set_cons_zero, List.set_cons_succ])
        refine wpAnyH_ready (rs := [1, 7]) (by kernel_rfl) (by simp) ?_
        refine AllReadyH.cons (i := 1) (by rfl) ?_ (AllReadyH.cons (i := 7) (by rfl) ?_ (AllReadyH.nil))
        · skip
          intro K' hK
          simp only [List.getElem_toArray, List.getElem_cons_zero, List.getElem_cons_succ]
          refine if_yes (by kernel_rfl) ?_
          go_big_op
          refine hK.out _ _ ?_ (fun hHeld2 => ?_)
          · exact hHeld
          clear hK K' hHeld
          have hHeld := hHeld2
          clear hHeld2
          (try simp only [List.getElem_toArray, List.getElem_cons_zero, List.getElem_cons_succ, Act.put, List.setIfInBounds_toArray, List.set_cons_zero, List.set_cons_succ])
          refine wpAnyH_ready (rs := [7]) (by kernel_rfl) (by simp) ?_
          refine AllReadyH.cons (i := 7) (by rfl) ?_ (AllReadyH.nil)
          intro K' hK
          simp only [List.getElem_toArray, List.getElem_cons_zero, List.getElem_cons_succ]
          refine if_yes (by kernel_rfl) ?_
          go_big_op
          (go_at_call 39; rw [show wrap64 ((2 : Int) ^ min 1 64) = 2 from shl1]; refine (HNX.out _ _ 2 hTc (by omega) (by omega)).mono ?_; rintro e w6 ⟨r6, rfl, h60, h61, t6, ht6, hTc', hg6⟩)
          refine hK.out _ _ ?_ (fun hHeld2 => ?_)
          · exact hHeld.trans ((HG1.out _ _ hg6).mono (fun i _ e => Or.inl e))
          clear hK K' hHeld
          have hHeld := hHeld2
          clear hHeld2
          (try simp only [List.getElem_toArray, List.getElem_cons_zero, List.getElem_cons_succ, Act.put, List.setIfInBounds_toArray, List.set_cons_zero, List.set_cons_succ])
          have OO := OO.onlyN hg6 (by omega)
          have hoc := own_onlyX hoc (HG1.out _ _ hg6) (fun i hi e => by have := (hoc.lt i hi).1; omega)
          have hTc := hTc'
          have o0 := OO.cell 0 _ rfl
          have h62 : r6 < 2 := by omega
          clear hTc' h61 hg6
          have w6u : IntKind.u32.wrap r6 = r6 := IntWalk.u32_in _ (by omega)
          refine wpAnyH_take (i := 8) (v := ?_) rfl (by kernel_rfl) (by kernel_rfl) (by kernel_rfl) (fun _ _ _ h => h) (Or.inl ⟨by rfl, ?_⟩) (by assumption) ?_
          rotate_left
          · intro wq hSw; clear hSw; go_simp; (try with_reducible rfl)
          (try simp only [List.getElem_toArray, List.getElem_cons_zero, List.getElem_cons_succ, Act.put, List.setIfInBounds_toArray, List.set_cons_zero, List.set_cons_succ])
          refine wpAnyH_take (i := 9) (v := ?_) rfl (by kernel_rfl) (by kernel_rfl) (by kernel_rfl) (fun _ _ _ h => h) (Or.inl ⟨by rfl, ?_⟩) (by assumption) ?_
          rotate_left
          · intro wq hSw; clear hSw; go_simp; (try with_reducible rfl)
          (try simp only [List.getElem_toArray, List.getElem_cons_zero, List.getElem_cons_succ, Act.put, List.setIfInBounds_toArray, List.set_cons_zero, List.set_cons_succ])
          refine wpAnyH_ready (rs := [10]) (by kernel_rfl) (by simp) ?_
          refine AllReadyH.cons (i := 10) (by rfl) ?_ (AllReadyH.nil)
          intro K' hK
          simp only [List.getElem_toArray, List.getElem_cons_zero, List.getElem_cons_succ]
          refine if_yes (by kernel_rfl) ?_
          go_big_op
          refine hK.out _ _ ?_ (fun hHeld2 => ?_)
          · exact hHeld.alloc _
          clear hK K' hHeld
          have hHeld := hHeld2
          clear hHeld2
          (try simp only [List.getElem_toArray, List.getElem_cons_zero, List.getElem_cons_succ, Act.put, List.setIfInBounds_toArray, List.set_cons_zero, List.set_cons_succ])
          have hfr := Reads.freshAs w6 #[.int .i64 1, .int .i64 1, .int .u32 r6] 73 3 1 [.int .i64 1, .int .i64 1, .int .u32 r6] rfl rfl (by decide)
          have hba : Below w6.heap.size w6 (w6.alloc (.cells #[.int .i64 1, .int .i64 1, .int .u32 r6] 73)) := keep_alloc (Below.refl _ _) _
          have OO := OO.below hba
          have hoc := own_keep hoc hba
          have hTc := hTc.below hba
          have o0 := OO.cell 0 _ rfl
          clear hba
          refine wpAnyH_ready (rs := [11]) (by kernel_rfl) (by simp) ?_
          refine AllReadyH.cons (i := 11) (by rfl) ?_ (AllReadyH.nil)
          intro K' hK
          refine step_appB rfl _ _ _ (by rfl) tyRHds (by rfl) hoc (by rfl) hfr (by simp [Value.oneCell']) q1' q2' (by have := OO.lt; simp at this ⊢; omega) ?_; intro v' w9 hown9 hg9 hbk9; obtain ⟨A9, c9, rfl, -⟩ := Reads.own hown9
          refine hK.out _ _ ?_ (fun hHeld2 => ?_)
          · exact hHeld.row hg9 (fun i hi _ => Or.inr (by have := (hoc.lt i hi).1; omega))
          clear hK K' hHeld
          have hHeld := hHeld2
          clear hHeld2
          (try simp only [List.getElem_toArray, List.getElem_cons_zero, List.getElem_cons_succ, Act.put, List.setIfInBounds_toArray, List.set_cons_zero, List.set_cons_succ])
          have OO := OO.onlyX (X := fun i => (Value.slice S j cs).ownBlock = some i) (fun e => by have := (hoc.lt _ e).1; omega) (OnlyX.grown hg9)
          have o0 := OO.cell 0 _ rfl
          have off := OO.free
          have hTc := tape_row hTc hg9 (fun e => by have := (hoc.lt _ e).1; omega)
          refine wpAnyH_take (i := 12) (v := ?_) rfl (by kernel_rfl) (by kernel_rfl) (by kernel_rfl) (fun _ _ _ h => h) (Or.inl ⟨by rfl, ?_⟩) (by assumption) ?_
          rotate_left
          · intro wq hSw; clear hSw; go_simp; (try with_reducible rfl)
          (try simp only [List.getElem_toArray, List.getElem_cons_zero, List.getElem_cons_succ, Act.put, List.setIfInBounds_toArray, List.set_cons_zero, List.set_cons_succ])
          refine wpAnyH_ready (rs := [13]) (by kernel_rfl) (by simp) ?_
          refine AllReadyH.cons (i := 13) (by rfl) ?_ (AllReadyH.nil)
          intro K' hK
          simp only [List.getElem_toArray, List.getElem_cons_zero, List.getElem_cons_succ]
          refine if_yes (by kernel_rfl) ?_
          go_big_op
          refine hK.out _ _ ?_ (fun hHeld2 => ?_)
          · exact hHeld.set (p := ⟨bp, 0, none⟩) (fun _ => Or.inr (Nat.le_refl _)) _
          clear hK K' hHeld
          have hHeld := hHeld2
          clear hHeld2
          (try simp only [List.getElem_toArray, List.getElem_cons_zero, List.getElem_cons_succ, Act.put, List.setIfInBounds_toArray, List.set_cons_zero, List.set_cons_succ])
          refine wpAnyH_done (by kernel_rfl) ?_ _
          refine NoPanic.normal ?_
          have hTf := hTc.setN (p := ⟨bp, 0, none⟩) (by show g < bp; omega) (.slice A9 (j + 1) c9)
          have hOf := OO.set 0 (.slice A9 (j + 1) c9)
          have hwf := ownsRow_setCell_below hown9 (a := ⟨bp, 0, none⟩) (by show bp < bp + 1; omega) (.slice A9 (j + 1) c9)
          have hxf := HX5.out.trans hHeld
          clear o0 off OO hTc hoc hfr
          go_wp2_with fail
          go_roundw
          case rel =>
            refine ⟨j + 1, z - 1, A9, c9, shs ++ [⟨1, 1, r6⟩], t6, rfl, by omega, by have := HZJ.out; omega, by simp [HSL.out], ?_, ?_, hOf, hTf, by omega, hxf⟩
            · intro q hq
              rcases List.mem_append.1 hq with hq | hq
              · exact HSOK.out q hq
              · simp only [List.mem_singleton] at hq; subst hq; exact ⟨rfl, by show (0 : Int) ≤ 1; omega, by show (1 : Int) ≤ 3; omega, h60, by show r6 < (2 : Int); omega⟩
            · rw [List.flatMap_append]; exact hwf
          case measure => simp [intOf]; omega
        · skip
          intro K' hK
          simp only [List.getElem_toArray, List.getElem_cons_zero, List.getElem_cons_succ]
          refine if_yes (by kernel_rfl) ?_
          go_big_op
          (go_at_call 39; rw [show wrap64 ((2 : Int) ^ min 1 64) = 2 from shl1]; refine (HNX.out _ _ 2 hTc (by omega) (by omega)).mono ?_; rintro e w6 ⟨r6, rfl, h60, h61, t6, ht6, hTc', hg6⟩)
          refine hK.out _ _ ?_ (fun hHeld2 => ?_)
          · exact hHeld.trans ((HG1.out _ _ hg6).mono (fun i _ e => Or.inl e))
          clear hK K' hHeld
          have hHeld := hHeld2
          clear hHeld2
          (try simp only [List.getElem_toArray, List.getElem_cons_zero, List.getElem_cons_succ, Act.put, List.setIfInBounds_toArray, List.set_cons_zero, List.set_cons_succ])
          have OO := OO.onlyN hg6 (by omega)
          have hoc := own_onlyX hoc (HG1.out _ _ hg6) (fun i hi e => by have := (hoc.lt i hi).1; omega)
          have hTc := hTc'
          have o0 := OO.cell 0 _ rfl
          have h62 : r6 < 2 := by omega
          clear hTc' h61 hg6
          have w6u : IntKind.u32.wrap r6 = r6 := IntWalk.u32_in _ (by omega)
          refine wpAnyH_take (i := 8) (v := ?_) rfl (by kernel_rfl) (by kernel_rfl) (by kernel_rfl) (fun _ _ _ h => h) (Or.inl ⟨by rfl, ?_⟩) (by assumption) ?_
          rotate_left
          · intro wq hSw; clear hSw; go_simp; (try with_reducible rfl)
          (try simp only [List.getElem_toArray, List.getElem_cons_zero, List.getElem_cons_succ, Act.put, List.setIfInBounds_toArray, List.set_cons_zero, List.set_cons_succ])
          refine wpAnyH_take (i := 9) (v := ?_) rfl (by kernel_rfl) (by kernel_rfl) (by kernel_rfl) (fun _ _ _ h => h) (Or.inl ⟨by rfl, ?_⟩) (by assumption) ?_
          rotate_left
          · intro wq hSw; clear hSw; go_simp; (try with_reducible rfl)
          (try simp only [List.getElem_toArray, List.getElem_cons_zero, List.getElem_cons_succ, Act.put, List.setIfInBounds_toArray, List.set_cons_zero, List.set_cons_succ])
          refine wpAnyH_ready (rs := [1, 10]) (by kernel_rfl) (by simp) ?_
          refine AllReadyH.cons (i := 1) (by rfl) ?_ (AllReadyH.cons (i := 10) (by rfl) ?_ (AllReadyH.nil))
          · skip
            intro K' hK
            simp only [List.getElem_toArray, List.getElem_cons_zero, List.getElem_cons_succ]
            refine if_yes (by kernel_rfl) ?_
            go_big_op
            refine hK.out _ _ ?_ (fun hHeld2 => ?_)
            · exact hHeld
            clear hK K' hHeld
            have hHeld := hHeld2
            clear hHeld2
            (try simp only [List.getElem_toArray, List.getElem_cons_zero, List.getElem_cons_succ, Act.put, List.setIfInBounds_toArray, List.set_cons_zero, List.set_cons_succ])
            refine wpAnyH_ready (rs := [10]) (by kernel_rfl) (by simp) ?_
            refine AllReadyH.cons (i := 10) (by rfl) ?_ (AllReadyH.nil)
            intro K' hK
            simp only [List.getElem_toArray, List.getElem_cons_zero, List.getElem_cons_succ]
            refine if_yes (by kernel_rfl) ?_
            go_big_op
            refine hK.out _ _ ?_ (fun hHeld2 => ?_)
            · exact hHeld.alloc _
            clear hK K' hHeld
            have hHeld := hHeld2
            clear hHeld2
            (try simp only [List.getElem_toArray, List.getElem_cons_zero, List.getElem_cons_succ, Act.put, List.setIfInBounds_toArray, List.set_cons_zero, List.set_cons_succ])
            have hfr := Reads.freshAs w6 #[.int .i64 1, .int .i64 1, .int .u32 r6] 73 3 1 [.int .i64 1, .int .i64 1, .int .u32 r6] rfl rfl (by decide)
            have hba : Below w6.heap.size w6 (w6.alloc (.cells #[.int .i64 1, .int .i64 1, .int .u32 r6] 73)) := keep_alloc (Below.refl _ _) _
            have OO := OO.below hba
            have hoc := own_keep hoc hba
            have hTc := hTc.below hba
            have o0 := OO.cell 0 _ rfl
            clear hba
            refine wpAnyH_ready (rs := [11]) (by kernel_rfl) (by simp) ?_
            refine AllReadyH.cons (i := 11) (by rfl) ?_ (AllReadyH.nil)
            intro K' hK
            refine step_appB rfl _ _ _ (by rfl) tyRHds (by rfl) hoc (by rfl) hfr (by simp [Value.oneCell']) q1' q2' (by have := OO.lt; simp at this ⊢; omega) ?_; intro v' w9 hown9 hg9 hbk9; obtain ⟨A9, c9, rfl, -⟩ := Reads.own hown9
            refine hK.out _ _ ?_ (fun hHeld2 => ?_)
            · exact hHeld.row hg9 (fun i hi _ => Or.inr (by have := (hoc.lt i hi).1; omega))
            clear hK K' hHeld
            have hHeld := hHeld2
            clear hHeld2
            (try simp only [List.getElem_toArray, List.getElem_cons_zero, List.getElem_cons_succ, Act.put, List.setIfInBounds_toArray, List.set_cons_zero, List.set_cons_succ])
            have OO := OO.onlyX (X := fun i => (Value.slice S j cs).ownBlock = some i) (fun e => by have := (hoc.lt _ e).1; omega) (OnlyX.grown hg9)
            have o0 := OO.cell 0 _ rfl
            have off := OO.free
            have hTc := tape_row hTc hg9 (fun e => by have := (hoc.lt _ e).1; omega)
            refine wpAnyH_take (i := 12) (v := ?_) rfl (by kernel_rfl) (by kernel_rfl) (by kernel_rfl) (fun _ _ _ h => h) (Or.inl ⟨by rfl, ?_⟩) (by assumption) ?_
            rotate_left
            · intro wq hSw; clear hSw; go_simp; (try with_reducible rfl)
            (try simp only [List.getElem_toArray, List.getElem_cons_zero, List.getElem_cons_succ, Act.put, List.setIfInBounds_toArray, List.set_cons_zero, List.set_cons_succ])
            refine wpAnyH_ready (rs := [13]) (by kernel_rfl) (by simp) ?_
            refine AllReadyH.cons (i := 13) (by rfl) ?_ (AllReadyH.nil)
            intro K' hK
            simp only [List.getElem_toArray, List.getElem_cons_zero, List.getElem_cons_succ]
            refine if_yes (by kernel_rfl) ?_
            go_big_op
            refine hK.out _ _ ?_ (fun hHeld2 => ?_)
            · exact hHeld.set (p := ⟨bp, 0, none⟩) (fun _ => Or.inr (Nat.le_refl _)) _
            clear hK K' hHeld
            have hHeld := hHeld2
            clear hHeld2
            (try simp only [List.getElem_toArray, List.getElem_cons_zero, List.getElem_cons_succ, Act.put, List.setIfInBounds_toArray, List.set_cons_zero, List.set_cons_succ])
            refine wpAnyH_done (by kernel_rfl) ?_ _
            refine NoPanic.normal ?_
            have hTf := hTc.setN (p := ⟨bp, 0, none⟩) (by show g < bp; omega) (.slice A9 (j + 1) c9)
            have hOf := OO.set 0 (.slice A9 (j + 1) c9)
            have hwf := ownsRow_setCell_below hown9 (a := ⟨bp, 0, none⟩) (by show bp < bp + 1; omega) (.slice A9 (j + 1) c9)
            have hxf := HX5.out.trans hHeld
            clear o0 off OO hTc hoc hfr
            go_wp2_with fail
            go_roundw
            case rel =>
              refine ⟨j + 1, z - 1, A9, c9, shs ++ [⟨1, 1, r6⟩], t6, rfl, by omega, by have := HZJ.out; omega, by simp [HSL.out], ?_, ?_, hOf, hTf, by omega, hxf⟩
              · intro q hq
                rcases List.mem_append.1 hq with hq | hq
                · exact HSOK.out q hq
                · simp only [List.mem_singleton] at hq; subst hq; exact ⟨rfl, by show (0 : Int) ≤ 1; omega, by show (1 : Int) ≤ 3; omega, h60, by show r6 < (2 : Int); omega⟩
              · rw [List.flatMap_append]; exact hwf
            case measure => simp [intOf]; omega
          · skip
            intro K' hK
            simp only [List.getElem_toArray, List.getElem_cons_zero, List.getElem_cons_succ]
            refine if_yes (by kernel_rfl) ?_
            go_big_op
            refine hK.out _ _ ?_ (fun hHeld2 => ?_)
            · exact hHeld.alloc _
            clear hK K' hHeld
            have hHeld := hHeld2
            clear hHeld2
            (try simp only [List.getElem_toArray, List.getElem_cons_zero, List.getElem_cons_succ, Act.put, List.setIfInBounds_toArray, List.set_cons_zero, List.set_cons_succ])
            have hfr := Reads.freshAs w6 #[.int .i64 1, .int .i64 1, .int .u32 r6] 73 3 1 [.int .i64 1, .int .i64 1, .int .u32 r6] rfl rfl (by decide)
            have hba : Below w6.heap.size w6 (w6.alloc (.cells #[.int .i64 1, .int .i64 1, .int .u32 r6] 73)) := keep_alloc (Below.refl _ _) _
            have OO := OO.below hba
            have hoc := own_keep hoc hba
            have hTc := hTc.below hba
            have o0 := OO.cell 0 _ rfl
            clear hba
            refine wpAnyH_ready (rs := [1]) (by kernel_rfl) (by simp) ?_
            refine AllReadyH.cons (i := 1) (by rfl) ?_ (AllReadyH.nil)
            intro K' hK
            simp only [List.getElem_toArray, List.getElem_cons_zero, List.getElem_cons_succ]
            refine if_yes (by kernel_rfl) ?_
            go_big_op
            refine hK.out _ _ ?_ (fun hHeld2 => ?_)
            · exact hHeld
            clear hK K' hHeld
            have hHeld := hHeld2
            clear hHeld2
            (try simp only [List.getElem_toArray, List.getElem_cons_zero, List.getElem_cons_succ, Act.put, List.setIfInBounds_toArray, List.set_cons_zero, List.set_cons_succ])
            refine wpAnyH_ready (rs := [11]) (by kernel_rfl) (by simp) ?_
            refine AllReadyH.cons (i := 11) (by rfl) ?_ (AllReadyH.nil)
            intro K' hK
            refine step_appB rfl _ _ _ (by rfl) tyRHds (by rfl) hoc (by rfl) hfr (by simp [Value.oneCell']) q1' q2' (by have := OO.lt; simp at this ⊢; omega) ?_; intro v' w9 hown9 hg9 hbk9; obtain ⟨A9, c9, rfl, -⟩ := Reads.own hown9
            refine hK.out _ _ ?_ (fun hHeld2 => ?_)
            · exact hHeld.row hg9 (fun i hi _ => Or.inr (by have := (hoc.lt i hi).1; omega))
            clear hK K' hHeld
            have hHeld := hHeld2
            clear hHeld2
            (try simp only [List.getElem_toArray, List.getElem_cons_zero, List.getElem_cons_succ, Act.put, List.setIfInBounds_toArray, List.set_cons_zero, List.set_cons_succ])
            have OO := OO.onlyX (X := fun i => (Value.slice S j cs).ownBlock = some i) (fun e => by have := (hoc.lt _ e).1; omega) (OnlyX.grown hg9)
            have o0 := OO.cell 0 _ rfl
            have off := OO.free
            have hTc := tape_row hTc hg9 (fun e => by have := (hoc.lt _ e).1; omega)
            refine wpAnyH_take (i := 12) (v := ?_) rfl (by kernel_rfl) (by kernel_rfl) (by kernel_rfl) (fun _ _ _ h => h) (Or.inl ⟨by rfl, ?_⟩) (by assumption) ?_
            rotate_left
            · intro wq hSw; clear hSw; go_simp; (try with_reducible rfl)
            (try simp only [List.getElem_toArray, List.getElem_cons_zero, List.getElem_cons_succ, Act.put, List.setIfInBounds_toArray, List.set_cons_zero, List.set_cons_succ])
            refine wpAnyH_ready (rs := [13]) (by kernel_rfl) (by simp) ?_
            refine AllReadyH.cons (i := 13) (by rfl) ?_ (AllReadyH.nil)
            intro K' hK
            simp only [List.getElem_toArray, List.getElem_cons_zero, List.getElem_cons_succ]
            refine if_yes (by kernel_rfl) ?_
            go_big_op
            refine hK.out _ _ ?_ (fun hHeld2 => ?_)
            · exact hHeld.set (p := ⟨bp, 0, none⟩) (fun _ => Or.inr (Nat.le_refl _)) _
            clear hK K' hHeld
            have hHeld := hHeld2
            clear hHeld2
            (try simp only [List.getElem_toArray, List.getElem_cons_zero, List.getElem_cons_succ, Act.put, List.setIfInBounds_toArray, List.set_cons_zero, List.set_cons_succ])
            refine wpAnyH_done (by kernel_rfl) ?_ _
            refine NoPanic.normal ?_
            have hTf := hTc.setN (p := ⟨bp, 0, none⟩) (by show g < bp; omega) (.slice A9 (j + 1) c9)
            have hOf := OO.set 0 (.slice A9 (j + 1) c9)
            have hwf := ownsRow_setCell_below hown9 (a := ⟨bp, 0, none⟩) (by show bp < bp + 1; omega) (.slice A9 (j + 1) c9)
            have hxf := HX5.out.trans hHeld
            clear o0 off OO hTc hoc hfr
            go_wp2_with fail
            go_roundw
            case rel =>
              refine ⟨j + 1, z - 1, A9, c9, shs ++ [⟨1, 1, r6⟩], t6, rfl, by omega, by have := HZJ.out; omega, by simp [HSL.out], ?_, ?_, hOf, hTf, by omega, hxf⟩
              · intro q hq
                rcases List.mem_append.1 hq with hq | hq
                · exact HSOK.out q hq
                · simp only [List.mem_singleton] at hq; subst hq; exact ⟨rfl, by show (0 : Int) ≤ 1; omega, by show (1 : Int) ≤ 3; omega, h60, by show r6 < (2 : Int); omega⟩
              · rw [List.flatMap_append]; exact hwf
            case measure => simp [intOf]; omega
      · skip
        go_upto_region 6 with fail
        have hTc : TapeAt (World.drew w5) g t5 := hT5.below (Below.refl _ _).drew
        have OO : Blk (World.drew w5) bp 26 #[.slice S j cs, .slice (some ⟨bF, 0, none⟩) nf cf, .slice N nn cn] := P5.drew
        have hoc : (World.drew w5).ownsRow (bp + 1) 73 3 (.slice S j cs) j (shs.flatMap hdCells) := own_keep hownS5 (Below.refl _ _).drew
        have o0 := OO.cell 0 _ rfl
        clear hT5 P5 hownS5
        refine wp_region_noPanic ?_
        refine wp_region_held_drew (S := fun u => OnlyX (fun i => i = g ∨ bp ≤ i) w5 u) (by kernel_rfl) (OnlyX.refl.drew) (fun hHeld => ?_)
        refine wpAnyH_take (i := 0) (v := ?_) rfl (by kernel_rfl) (by kernel_rfl) (by kernel_rfl) (fun _ _ _ h => h) (Or.inl ⟨by rfl, ?_⟩) (by assumption) ?_
        rotate_left
        · intro wq hSw; clear hSw; go_simp; (try with_reducible rfl)
        (try simp only [List.getElem_toArray, List.getElem_cons_zero, List.getElem_cons_succ, Act.put, List.setIfInBounds_toArray, List.set_cons_zero, List.set_cons_succ])
        refine wpAnyH_take (i := 2) (v := ?_) rfl (by kernel_rfl) (by kernel_rfl) (by kernel_rfl) (fun _ _ _ h => h) (Or.inl ⟨by rfl, ?_⟩) (by assumption) ?_
        rotate_left
        · intro wq hSw; clear hSw; go_simp; (try with_reducible rfl)
        (try simp only [List.getElem_toArray, List.getElem_cons_zero, List.getElem_cons_succ, Act.put, List.setIfInBounds_toArray, List.set_cons_zero, List.set_cons_succ])
        refine wpAnyH_take (i := 3) (v := ?_) rfl (by kernel_rfl) (by kernel_rfl) (by kernel_rfl) (fun _ _ _ h => h) (Or.inl ⟨by rfl, ?_⟩) (by assumption) ?_
        rotate_left
        · intro wq hSw; clear hSw; go_simp; (try with_reducible rfl)
        (try simp only [List.getElem_toArray, List.getElem_cons_zero, List.getElem_cons_succ, Act.put, List.setIfInBounds_toArray, List.set_cons_zero, List.set_cons_succ])
        refine wpAnyH_take (i := 4) (v := ?_) rfl (by kernel_rfl) (by kernel_rfl) (by kernel_rfl) (fun _ _ _ h => h) (Or.inl ⟨by rfl, ?_⟩) (by assumption) ?_
        rotate_left
        · intro wq hSw; clear hSw; go_simp; (try with_reducible rfl)
        (try simp only [List.getElem_toArray, List.getElem_cons_zero, List.getElem_cons_succ, Act.put, List.setIfInBounds_toArray, List.set_cons_zero, List.set_cons_succ])
        refine wpAnyH_take (i := 5) (v := ?_) rfl (by kernel_rfl) (by kernel_rfl) (by kernel_rfl) (fun _ _ _ h => h) (Or.inl ⟨by rfl, ?_⟩) (by assumption) ?_
        rotate_left
        · intro wq hSw; clear hSw; go_simp; (try with_reducible rfl)
        (try simp only [List.getElem_toArray, List.getElem_cons_zero, List.getElem_cons_succ, Act.put, List.setIfInBounds_toArray, List.set_cons_zero, List.set_cons_succ])
        refine wpAnyH_take (i := 6) (v := ?_) rfl (by kernel_rfl) (by kernel_rfl) (by kernel_rfl) (fun _ _ _ h => h) (Or.inl ⟨by rfl, ?_⟩) (by assumption) ?_
        rotate_left
        · intro wq hSw; clear hSw; go_simp; (try with_reducible rfl)
        (try simp only [List.getElem_toArray, List.getElem_cons_zero, List.getElem_cons_succ, Act.put, List.setIfInBounds_toArray, List.set_cons_zero, List.set_cons_succ])
        refine wpAnyH_ready (rs := [1, 7]) (by kernel_rfl) (by simp) ?_
        refine AllReadyH.cons (i := 1) (by rfl) ?_ (AllReadyH.cons (i := 7) (by rfl) ?_ (AllReadyH.nil))
        · skip
          intro K' hK
          simp only [List.getElem_toArray, List.getElem_cons_zero, List.getElem_cons_succ]
          refine if_yes (by kernel_rfl) ?_
          go_big_op
          refine hK.out _ _ ?_ (fun hHeld2 => ?_)
          · exact hHeld
          clear hK K' hHeld
          have hHeld := hHeld2
          clear hHeld2
          (try simp only [List.getElem_toArray, List.getElem_cons_zero, List.getElem_cons_succ, Act.put, List.setIfInBounds_toArray, List.set_cons_zero, List.set_cons_succ])
          refine wpAnyH_ready (rs := [7]) (by kernel_rfl) (by simp) ?_
          refine AllReadyH.cons (i := 7) (by rfl) ?_ (AllReadyH.nil)
          intro K' hK
          simp only [List.getElem_toArray, List.getElem_cons_zero, List.getElem_cons_succ]
          refine if_yes (by kernel_rfl) ?_
          go_big_op
          (go_at_call 39; rw [show wrap64 ((2 : Int) ^ min 2 64) = 4 from shl2]; refine (HNX.out _ _ 4 hTc (by omega) (by omega)).mono ?_; rintro e w6 ⟨r6, rfl, h60, h61, t6, ht6, hTc', hg6⟩)
          refine hK.out _ _ ?_ (fun hHeld2 => ?_)
          · exact hHeld.trans ((HG1.out _ _ hg6).mono (fun i _ e => Or.inl e))
          clear hK K' hHeld
          have hHeld := hHeld2
          clear hHeld2
          (try simp only [List.getElem_toArray, List.getElem_cons_zero, List.getElem_cons_succ, Act.put, List.setIfInBounds_toArray, List.set_cons_zero, List.set_cons_succ])
          have OO := OO.onlyN hg6 (by omega)
          have hoc := own_onlyX hoc (HG1.out _ _ hg6) (fun i hi e => by have := (hoc.lt i hi).1; omega)
          have hTc := hTc'
          have o0 := OO.cell 0 _ rfl
          have h62 : r6 < 4 := by omega
          clear hTc' h61 hg6
          have w6u : IntKind.u32.wrap r6 = r6 := IntWalk.u32_in _ (by omega)
          refine wpAnyH_take (i := 8) (v := ?_) rfl (by kernel_rfl) (by kernel_rfl) (by kernel_rfl) (fun _ _ _ h => h) (Or.inl ⟨by rfl, ?_⟩) (by assumption) ?_
          rotate_left
          · intro wq hSw; clear hSw; go_simp; (try with_reducible rfl)
          (try simp only [List.getElem_toArray, List.getElem_cons_zero, List.getElem_cons_succ, Act.put, List.setIfInBounds_toArray, List.set_cons_zero, List.set_cons_succ])
          refine wpAnyH_take (i := 9) (v := ?_) rfl (by kernel_rfl) (by kernel_rfl) (by kernel_rfl) (fun _ _ _ h => h) (Or.inl ⟨by rfl, ?_⟩) (by assumption) ?_
          rotate_left
          · intro wq hSw; clear hSw; go_simp; (try with_reducible rfl)
          (try simp only [List.getElem_toArray, List.getElem_cons_zero, List.getElem_cons_succ, Act.put, List.setIfInBounds_toArray, List.set_cons_zero, List.set_cons_succ])
          refine wpAnyH_ready (rs := [10]) (by kernel_rfl) (by simp) ?_
          refine AllReadyH.cons (i := 10) (by rfl) ?_ (AllReadyH.nil)
          intro K' hK
          simp only [List.getElem_toArray, List.getElem_cons_zero, List.getElem_cons_succ]
          refine if_yes (by kernel_rfl) ?_
          go_big_op
          refine hK.out _ _ ?_ (fun hHeld2 => ?_)
          · exact hHeld.alloc _
          clear hK K' hHeld
          have hHeld := hHeld2
          clear hHeld2
          (try simp only [List.getElem_toArray, List.getElem_cons_zero, List.getElem_cons_succ, Act.put, List.setIfInBounds_toArray, List.set_cons_zero, List.set_cons_succ])
          have hfr := Reads.freshAs w6 #[.int .i64 1, .int .i64 2, .int .u32 r6] 73 3 1 [.int .i64 1, .int .i64 2, .int .u32 r6] rfl rfl (by decide)
          have hba : Below w6.heap.size w6 (w6.alloc (.cells #[.int .i64 1, .int .i64 2, .int .u32 r6] 73)) := keep_alloc (Below.refl _ _) _
          have OO := OO.below hba
          have hoc := own_keep hoc hba
          have hTc := hTc.below hba
          have o0 := OO.cell 0 _ rfl
          clear hba
          refine wpAnyH_ready (rs := [11]) (by kernel_rfl) (by simp) ?_
          refine AllReadyH.cons (i := 11) (by rfl) ?_ (AllReadyH.nil)
          intro K' hK
          refine step_appB rfl _ _ _ (by rfl) tyRHds (by rfl) hoc (by rfl) hfr (by simp [Value.oneCell']) q1' q2' (by have := OO.lt; simp at this ⊢; omega) ?_; intro v' w9 hown9 hg9 hbk9; obtain ⟨A9, c9, rfl, -⟩ := Reads.own hown9
          refine hK.out _ _ ?_ (fun hHeld2 => ?_)
          · exact hHeld.row hg9 (fun i hi _ => Or.inr (by have := (hoc.lt i hi).1; omega))
          clear hK K' hHeld
          have hHeld := hHeld2
          clear hHeld2
          (try simp only [List.getElem_toArray, List.getElem_cons_zero, List.getElem_cons_succ, Act.put, List.setIfInBounds_toArray, List.set_cons_zero, List.set_cons_succ])
          have OO := OO.onlyX (X := fun i => (Value.slice S j cs).ownBlock = some i) (fun e => by have := (hoc.lt _ e).1; omega) (OnlyX.grown hg9)
          have o0 := OO.cell 0 _ rfl
          have off := OO.free
          have hTc := tape_row hTc hg9 (fun e => by have := (hoc.lt _ e).1; omega)
          refine wpAnyH_take (i := 12) (v := ?_) rfl (by kernel_rfl) (by kernel_rfl) (by kernel_rfl) (fun _ _ _ h => h) (Or.inl ⟨by rfl, ?_⟩) (by assumption) ?_
          rotate_left
          · intro wq hSw; clear hSw; go_simp; (try with_reducible rfl)
          (try simp only [List.getElem_toArray, List.getElem_cons_zero, List.getElem_cons_succ, Act.put, List.setIfInBounds_toArray, List.set_cons_zero, List.set_cons_succ])
          refine wpAnyH_ready (rs := [13]) (by kernel_rfl) (by simp) ?_
          refine AllReadyH.cons (i := 13) (by rfl) ?_ (AllReadyH.nil)
          intro K' hK
          simp only [List.getElem_toArray, List.getElem_cons_zero, List.getElem_cons_succ]
          refine if_yes (by kernel_rfl) ?_
          go_big_op
          refine hK.out _ _ ?_ (fun hHeld2 => ?_)
          · exact hHeld.set (p := ⟨bp, 0, none⟩) (fun _ => Or.inr (Nat.le_refl _)) _
          clear hK K' hHeld
          have hHeld := hHeld2
          clear hHeld2
          (try simp only [List.getElem_toArray, List.getElem_cons_zero, List.getElem_cons_succ, Act.put, List.setIfInBounds_toArray, List.set_cons_zero, List.set_cons_succ])
          refine wpAnyH_done (by kernel_rfl) ?_ _
          refine NoPanic.normal ?_
          have hTf := hTc.setN (p := ⟨bp, 0, none⟩) (by show g < bp; omega) (.slice A9 (j + 1) c9)
          have hOf := OO.set 0 (.slice A9 (j + 1) c9)
          have hwf := ownsRow_setCell_below hown9 (a := ⟨bp, 0, none⟩) (by show bp < bp + 1; omega) (.slice A9 (j + 1) c9)
          have hxf := HX5.out.trans hHeld
          clear o0 off OO hTc hoc hfr
          go_wp2_with fail
          go_roundw
          case rel =>
            refine ⟨j + 1, z - 1, A9, c9, shs ++ [⟨1, 2, r6⟩], t6, rfl, by omega, by have := HZJ.out; omega, by simp [HSL.out], ?_, ?_, hOf, hTf, by omega, hxf⟩
            · intro q hq
              rcases List.mem_append.1 hq with hq | hq
              · exact HSOK.out q hq
              · simp only [List.mem_singleton] at hq; subst hq; exact ⟨rfl, by show (0 : Int) ≤ 2; omega, by show (2 : Int) ≤ 3; omega, h60, by show r6 < (4 : Int); omega⟩
            · rw [List.flatMap_append]; exact hwf
          case measure => simp [intOf]; omega
        · skip
          intro K' hK
          simp only [List.getElem_toArray, List.getElem_cons_zero, List.getElem_cons_succ]
          refine if_yes (by kernel_rfl) ?_
          go_big_op
          (go_at_call 39; rw [show wrap64 ((2 : Int) ^ min 2 64) = 4 from shl2]; refine (HNX.out _ _ 4 hTc (by omega) (by omega)).mono ?_; rintro e w6 ⟨r6, rfl, h60, h61, t6, ht6, hTc', hg6⟩)
          refine hK.out _ _ ?_ (fun hHeld2 => ?_)
          · exact hHeld.trans ((HG1.out _ _ hg6).mono (fun i _ e => Or.inl e))
          clear hK K' hHeld
          have hHeld := hHeld2
          clear hHeld2
          (try simp only [List.getElem_toArray, List.getElem_cons_zero, List.getElem_cons_succ, Act.put, List.setIfInBounds_toArray, List.set_cons_zero, List.set_cons_succ])
          have OO := OO.onlyN hg6 (by omega)
          have hoc := own_onlyX hoc (HG1.out _ _ hg6) (fun i hi e => by have := (hoc.lt i hi).1; omega)
          have hTc := hTc'
          have o0 := OO.cell 0 _ rfl
          have h62 : r6 < 4 := by omega
          clear hTc' h61 hg6
          have w6u : IntKind.u32.wrap r6 = r6 := IntWalk.u32_in _ (by omega)
          refine wpAnyH_take (i := 8) (v := ?_) rfl (by kernel_rfl) (by kernel_rfl) (by kernel_rfl) (fun _ _ _ h => h) (Or.inl ⟨by rfl, ?_⟩) (by assumption) ?_
          rotate_left
          · intro wq hSw; clear hSw; go_simp; (try with_reducible rfl)
          (try simp only [List.getElem_toArray, List.getElem_cons_zero, List.getElem_cons_succ, Act.put, List.setIfInBounds_toArray, List.set_cons_zero, List.set_cons_succ])
          refine wpAnyH_take (i := 9) (v := ?_) rfl (by kernel_rfl) (by kernel_rfl) (by kernel_rfl) (fun _ _ _ h => h) (Or.inl ⟨by rfl, ?_⟩) (by assumption) ?_
          rotate_left
          · intro wq hSw; clear hSw; go_simp; (try with_reducible rfl)
          (try simp only [List.getElem_toArray, List.getElem_cons_zero, List.getElem_cons_succ, Act.put, List.setIfInBounds_toArray, List.set_cons_zero, List.set_cons_succ])
          refine wpAnyH_ready (rs := [1, 10]) (by kernel_rfl) (by simp) ?_
          refine AllReadyH.cons (i := 1) (by rfl) ?_ (AllReadyH.cons (i := 10) (by rfl) ?_ (AllReadyH.nil))
          · skip
            intro K' hK
            simp only [List.getElem_toArray, List.getElem_cons_zero, List.getElem_cons_succ]
            refine if_yes (by kernel_rfl) ?_
            go_big_op
            refine hK.out _ _ ?_ (fun hHeld2 => ?_)
            · exact hHeld
            clear hK K' hHeld
            have hHeld := hHeld2
            clear hHeld2
            (try simp only [List.getElem_toArray, List.getElem_cons_zero, List.getElem_cons_succ, Act.put, List.setIfInBounds_toArray, List.set_cons_zero, List.set_cons_succ])
            refine wpAnyH_ready (rs := [10]) (by kernel_rfl) (by simp) ?_
            refine AllReadyH.cons (i := 10) (by rfl) ?_ (AllReadyH.nil)
            intro K' hK
            simp only [List.getElem_toArray, List.getElem_cons_zero, List.getElem_cons_succ]
            refine if_yes (by kernel_rfl) ?_
            go_big_op
            refine hK.out _ _ ?_ (fun hHeld2 => ?_)
            · exact hHeld.alloc _
            clear hK K' hHeld
            have hHeld := hHeld2
            clear hHeld2
            (try simp only [List.getElem_toArray, List.getElem_cons_zero, List.getElem_cons_succ, Act.put, List.setIfInBounds_toArray, List.set_cons_zero, List.set_cons_succ])
            have hfr := Reads.freshAs w6 #[.int .i64 1, .int .i64 2, .int .u32 r6] 73 3 1 [.int .i64 1, .int .i64 2, .int .u32 r6] rfl rfl (by decide)
            have hba : Below w6.heap.size w6 (w6.alloc (.cells #[.int .i64 1, .int .i64 2, .int .u32 r6] 73)) := keep_alloc (Below.refl _ _) _
            have OO := OO.below hba
            have hoc := own_keep hoc hba
            have hTc := hTc.below hba
            have o0 := OO.cell 0 _ rfl
            clear hba
            refine wpAnyH_ready (rs := [11]) (by kernel_rfl) (by simp) ?_
            refine AllReadyH.cons (i := 11) (by rfl) ?_ (AllReadyH.nil)
            intro K' hK
            refine step_appB rfl _ _ _ (by rfl) tyRHds (by rfl) hoc (by rfl) hfr (by simp [Value.oneCell']) q1' q2' (by have := OO.lt; simp at this ⊢; omega) ?_; intro v' w9 hown9 hg9 hbk9; obtain ⟨A9, c9, rfl, -⟩ := Reads.own hown9
            refine hK.out _ _ ?_ (fun hHeld2 => ?_)
            · exact hHeld.row hg9 (fun i hi _ => Or.inr (by have := (hoc.lt i hi).1; omega))
            clear hK K' hHeld
            have hHeld := hHeld2
            clear hHeld2
            (try simp only [List.getElem_toArray, List.getElem_cons_zero, List.getElem_cons_succ, Act.put, List.setIfInBounds_toArray, List.set_cons_zero, List.set_cons_succ])
            have OO := OO.onlyX (X := fun i => (Value.slice S j cs).ownBlock = some i) (fun e => by have := (hoc.lt _ e).1; omega) (OnlyX.grown hg9)
            have o0 := OO.cell 0 _ rfl
            have off := OO.free
            have hTc := tape_row hTc hg9 (fun e => by have := (hoc.lt _ e).1; omega)
            refine wpAnyH_take (i := 12) (v := ?_) rfl (by kernel_rfl) (by kernel_rfl) (by kernel_rfl) (fun _ _ _ h => h) (Or.inl ⟨by rfl, ?_⟩) (by assumption) ?_
            rotate_left
            · intro wq hSw; clear hSw; go_simp; (try with_reducible rfl)
            (try simp only [List.getElem_toArray, List.getElem_cons_zero, List.getElem_cons_succ, Act.put, List.setIfInBounds_toArray, List.set_cons_zero, List.set_cons_succ])
            refine wpAnyH_ready (rs := [13]) (by kernel_rfl) (by simp) ?_
            refine AllReadyH.cons (i := 13) (by rfl) ?_ (AllReadyH.nil)
            intro K' hK
            simp only [List.getElem_toArray, List.getElem_cons_zero, List.getElem_cons_succ]
            refine if_yes (by kernel_rfl) ?_
            go_big_op
            refine hK.out _ _ ?_ (fun hHeld2 => ?_)
            · exact hHeld.set (p := ⟨bp, 0, none⟩) (fun _ => Or.inr (Nat.le_refl _)) _
            clear hK K' hHeld
            have hHeld := hHeld2
            clear hHeld2
            (try simp only [List.getElem_toArray, List.getElem_cons_zero, List.getElem_cons_succ, Act.put, List.setIfInBounds_toArray, List.set_cons_zero, List.set_cons_succ])
            refine wpAnyH_done (by kernel_rfl) ?_ _
            refine NoPanic.normal ?_
            have hTf := hTc.setN (p := ⟨bp, 0, none⟩) (by show g < bp; omega) (.slice A9 (j + 1) c9)
            have hOf := OO.set 0 (.slice A9 (j + 1) c9)
            have hwf := ownsRow_setCell_below hown9 (a := ⟨bp, 0, none⟩) (by show bp < bp + 1; omega) (.slice A9 (j + 1) c9)
            have hxf := HX5.out.trans hHeld
            clear o0 off OO hTc hoc hfr
            go_wp2_with fail
            go_roundw
            case rel =>
              refine ⟨j + 1, z - 1, A9, c9, shs ++ [⟨1, 2, r6⟩], t6, rfl, by omega, by have := HZJ.out; omega, by simp [HSL.out], ?_, ?_, hOf, hTf, by omega, hxf⟩
              · intro q hq
                rcases List.mem_append.1 hq with hq | hq
                · exact HSOK.out q hq
                · simp only [List.mem_singleton] at hq; subst hq; exact ⟨rfl, by show (0 : Int) ≤ 2; omega, by show (2 : Int) ≤ 3; omega, h60, by show r6 < (4 : Int); omega⟩
              · rw [List.flatMap_append]; exact hwf
            case measure => simp [intOf]; omega
          · skip
            intro K' hK
            simp only [List.getElem_toArray, List.getElem_cons_zero, List.getElem_cons_succ]
            refine if_yes (by kernel_rfl) ?_
            go_big_op
            refine hK.out _ _ ?_ (fun hHeld2 => ?_)
            · exact hHeld.alloc _
            clear hK K' hHeld
            have hHeld := hHeld2
            clear hHeld2
            (try simp only [List.getElem_toArray, List.getElem_cons_zero, List.getElem_cons_succ, Act.put, List.setIfInBounds_toArray, List.set_cons_zero, List.set_cons_succ])
            have hfr := Reads.freshAs w6 #[.int .i64 1, .int .i64 2, .int .u32 r6] 73 3 1 [.int .i64 1, .int .i64 2, .int .u32 r6] rfl rfl (by decide)
            have hba : Below w6.heap.size w6 (w6.alloc (.cells #[.int .i64 1, .int .i64 2, .int .u32 r6] 73)) := keep_alloc (Below.refl _ _) _
            have OO := OO.below hba
            have hoc := own_keep hoc hba
            have hTc := hTc.below hba
            have o0 := OO.cell 0 _ rfl
            clear hba
            refine wpAnyH_ready (rs := [1]) (by kernel_rfl) (by simp) ?_
            refine AllReadyH.cons (i := 1) (by rfl) ?_ (AllReadyH.nil)
            intro K' hK
            simp only [List.getElem_toArray, List.getElem_cons_zero, List.getElem_cons_succ]
            refine if_yes (by kernel_rfl) ?_
            go_big_op
            refine hK.out _ _ ?_ (fun hHeld2 => ?_)
            · exact hHeld
            clear hK K' hHeld
            have hHeld := hHeld2
            clear hHeld2
            (try simp only [List.getElem_toArray, List.getElem_cons_zero, List.getElem_cons_succ, Act.put, List.setIfInBounds_toArray, List.set_cons_zero, List.set_cons_succ])
            refine wpAnyH_ready (rs := [11]) (by kernel_rfl) (by simp) ?_
            refine AllReadyH.cons (i := 11) (by rfl) ?_ (AllReadyH.nil)
            intro K' hK
            refine step_appB rfl _ _ _ (by rfl) tyRHds (by rfl) hoc (by rfl) hfr (by simp [Value.oneCell']) q1' q2' (by have := OO.lt; simp at this ⊢; omega) ?_; intro v' w9 hown9 hg9 hbk9; obtain ⟨A9, c9, rfl, -⟩ := Reads.own hown9
            refine hK.out _ _ ?_ (fun hHeld2 => ?_)
            · exact hHeld.row hg9 (fun i hi _ => Or.inr (by have := (hoc.lt i hi).1; omega))
            clear hK K' hHeld
            have hHeld := hHeld2
            clear hHeld2
            (try simp only [List.getElem_toArray, List.getElem_cons_zero, List.getElem_cons_succ, Act.put, List.setIfInBounds_toArray, List.set_cons_zero, List.set_cons_succ])
            have OO := OO.onlyX (X := fun i => (Value.slice S j cs).ownBlock = some i) (fun e => by have := (hoc.lt _ e).1; omega) (OnlyX.grown hg9)
            have o0 := OO.cell 0 _ rfl
            have off := OO.free
            have hTc := tape_row hTc hg9 (fun e => by have := (hoc.lt _ e).1; omega)
            refine wpAnyH_take (i := 12) (v := ?_) rfl (by kernel_rfl) (by kernel_rfl) (by kernel_rfl) (fun _ _ _ h => h) (Or.inl ⟨by rfl, ?_⟩) (by assumption) ?_
            rotate_left
            · intro wq hSw; clear hSw; go_simp; (try with_reducible rfl)
            (try simp only [List.getElem_toArray, List.getElem_cons_zero, List.getElem_cons_succ, Act.put, List.setIfInBounds_toArray, List.set_cons_zero, List.set_cons_succ])
            refine wpAnyH_ready (rs := [13]) (by kernel_rfl) (by simp) ?_
            refine AllReadyH.cons (i := 13) (by rfl) ?_ (AllReadyH.nil)
            intro K' hK
            simp only [List.getElem_toArray, List.getElem_cons_zero, List.getElem_cons_succ]
            refine if_yes (by kernel_rfl) ?_
            go_big_op
            refine hK.out _ _ ?_ (fun hHeld2 => ?_)
            · exact hHeld.set (p := ⟨bp, 0, none⟩) (fun _ => Or.inr (Nat.le_refl _)) _
            clear hK K' hHeld
            have hHeld := hHeld2
            clear hHeld2
            (try simp only [List.getElem_toArray, List.getElem_cons_zero, List.getElem_cons_succ, Act.put, List.setIfInBounds_toArray, List.set_cons_zero, List.set_cons_succ])
            refine wpAnyH_done (by kernel_rfl) ?_ _
            refine NoPanic.normal ?_
            have hTf := hTc.setN (p := ⟨bp, 0, none⟩) (by show g < bp; omega) (.slice A9 (j + 1) c9)
            have hOf := OO.set 0 (.slice A9 (j + 1) c9)
            have hwf := ownsRow_setCell_below hown9 (a := ⟨bp, 0, none⟩) (by show bp < bp + 1; omega) (.slice A9 (j + 1) c9)
            have hxf := HX5.out.trans hHeld
            clear o0 off OO hTc hoc hfr
            go_wp2_with fail
            go_roundw
            case rel =>
              refine ⟨j + 1, z - 1, A9, c9, shs ++ [⟨1, 2, r6⟩], t6, rfl, by omega, by have := HZJ.out; omega, by simp [HSL.out], ?_, ?_, hOf, hTf, by omega, hxf⟩
              · intro q hq
                rcases List.mem_append.1 hq with hq | hq
                · exact HSOK.out q hq
                · simp only [List.mem_singleton] at hq; subst hq; exact ⟨rfl, by show (0 : Int) ≤ 2; omega, by show (2 : Int) ≤ 3; omega, h60, by show r6 < (4 : Int); omega⟩
              · rw [List.flatMap_append]; exact hwf
            case measure => simp [intOf]; omega
      · skip
        go_upto_region 6 with fail
        have hTc : TapeAt (World.drew w5) g t5 := hT5.below (Below.refl _ _).drew
        have OO : Blk (World.drew w5) bp 26 #[.slice S j cs, .slice (some ⟨bF, 0, none⟩) nf cf, .slice N nn cn] := P5.drew
        have hoc : (World.drew w5).ownsRow (bp + 1) 73 3 (.slice S j cs) j (shs.flatMap hdCells) := own_keep hownS5 (Below.refl _ _).drew
        have o0 := OO.cell 0 _ rfl
        clear hT5 P5 hownS5
        refine wp_region_noPanic ?_
        refine wp_region_held_drew (S := fun u => OnlyX (fun i => i = g ∨ bp ≤ i) w5 u) (by kernel_rfl) (OnlyX.refl.drew) (fun hHeld => ?_)
        refine wpAnyH_take (i := 0) (v := ?_) rfl (by kernel_rfl) (by kernel_rfl) (by kernel_rfl) (fun _ _ _ h => h) (Or.inl ⟨by rfl, ?_⟩) (by assumption) ?_
        rotate_left
        · intro wq hSw; clear hSw; go_simp; (try with_reducible rfl)
        (try simp only [List.getElem_toArray, List.getElem_cons_zero, List.getElem_cons_succ, Act.put, List.setIfInBounds_toArray, List.set_cons_zero, List.set_cons_succ])
        refine wpAnyH_take (i := 2) (v := ?_) rfl (by kernel_rfl) (by kernel_rfl) (by kernel_rfl) (fun _ _ _ h => h) (Or.inl ⟨by rfl, ?_⟩) (by assumption) ?_
        rotate_left
        · intro wq hSw; clear hSw; go_simp; (try with_reducible rfl)
        (try simp only [List.getElem_toArray, List.getElem_cons_zero, List.getElem_cons_succ, Act.put, List.setIfInBounds_toArray, List.set_cons_zero, List.set_cons_succ])
        refine wpAnyH_take (i := 3) (v := ?_) rfl (by kernel_rfl) (by kernel_rfl) (by kernel_rfl) (fun _ _ _ h => h) (Or.inl ⟨by rfl, ?_⟩) (by assumption) ?_
        rotate_left
        · intro wq hSw; clear hSw; go_simp; (try with_reducible rfl)
        (try simp only [List.getElem_toArray, List.getElem_cons_zero, List.getElem_cons_succ, Act.put, List.setIfInBounds_toArray, List.set_cons_zero, List.set_cons_succ])
        refine wpAnyH_take (i := 4) (v := ?_) rfl (by kernel_rfl) (by kernel_rfl) (by kernel_rfl) (fun _ _ _ h => h) (Or.inl ⟨by rfl, ?_⟩) (by assumption) ?_
        rotate_left
        · intro wq hSw; clear hSw; go_simp; (try with_reducible rfl)
        (try simp only [List.getElem_toArray, List.getElem_cons_zero, List.getElem_cons_succ, Act.put, List.setIfInBounds_toArray, List.set_cons_zero, List.set_cons_succ])
        refine wpAnyH_take (i := 5) (v := ?_) rfl (by kernel_rfl) (by kernel_rfl) (by kernel_rfl) (fun _ _ _ h => h) (Or.inl ⟨by rfl, ?_⟩) (by assumption) ?_
        rotate_left
        · intro wq hSw; clear hSw; go_simp; (try with_reducible rfl)
        (try simp only [List.getElem_toArray, List.getElem_cons_zero, List.getElem_cons_succ, Act.put, List.setIfInBounds_toArray, List.set_cons_zero, List.set_cons_succ])
        refine wpAnyH_take (i := 6) (v := ?_) rfl (by kernel_rfl) (by kernel_rfl) (by kernel_rfl) (fun _ _ _ h => h) (Or.inl ⟨by rfl, ?_⟩) (by assumption) ?_
        rotate_left
        · intro wq hSw; clear hSw; go_simp; (try with_reducible rfl)
        (try simp only [List.getElem_toArray, List.getElem_cons_zero, List.getElem_cons_succ, Act.put, List.setIfInBounds_toArray, List.set_cons_zero, List.set_cons_succ])
        refine wpAnyH_ready (rs := [1, 7]) (by kernel_rfl) (by simp) ?_
        refine AllReadyH.cons (i := 1) (by rfl) ?_ (AllReadyH.cons (i := 7) (by rfl) ?_ (AllReadyH.nil))
        · skip
          intro K' hK
          simp only [List.getElem_toArray, List.getElem_cons_zero, List.getElem_cons_succ]
          refine if_yes (by kernel_rfl) ?_
          go_big_op
          refine hK.out _ _ ?_ (fun hHeld2 => ?_)
          · exact hHeld
          clear hK K' hHeld
          have hHeld := hHeld2
          clear hHeld2
          (try simp only [List.getElem_toArray, List.getElem_cons_zero, List.getElem_cons_succ, Act.put, List.setIfInBounds_toArray, List.set_cons_zero, List.set_cons_succ])
          refine wpAnyH_ready (rs := [7]) (by kernel_rfl) (by simp) ?_
          refine AllReadyH.cons (i := 7) (by rfl) ?_ (AllReadyH.nil)
          intro K' hK
          simp only [List.getElem_toArray, List.getElem_cons_zero, List.getElem_cons_succ]
          refine if_yes (by kernel_rfl) ?_
          go_big_op
          (go_at_call 39; rw [show wrap64 ((2 : Int) ^ min 3 64) = 8 from shl3]; refine (HNX.out _ _ 8 hTc (by omega) (by omega)).mono ?_; rintro e w6 ⟨r6, rfl, h60, h61, t6, ht6, hTc', hg6⟩)
          refine hK.out _ _ ?_ (fun hHeld2 => ?_)
          · exact hHeld.trans ((HG1.out _ _ hg6).mono (fun i _ e => Or.inl e))
          clear hK K' hHeld
          have hHeld := hHeld2
          clear hHeld2
          (try simp only [List.getElem_toArray, List.getElem_cons_zero, List.getElem_cons_succ, Act.put, List.setIfInBounds_toArray, List.set_cons_zero, List.set_cons_succ])
          have OO := OO.onlyN hg6 (by omega)
          have hoc := own_onlyX hoc (HG1.out _ _ hg6) (fun i hi e => by have := (hoc.lt i hi).1; omega)
          have hTc := hTc'
          have o0 := OO.cell 0 _ rfl
          have h62 : r6 < 8 := by omega
          clear hTc' h61 hg6
          have w6u : IntKind.u32.wrap r6 = r6 := IntWalk.u32_in _ (by omega)
          refine wpAnyH_take (i := 8) (v := ?_) rfl (by kernel_rfl) (by kernel_rfl) (by kernel_rfl) (fun _ _ _ h => h) (Or.inl ⟨by rfl, ?_⟩) (by assumption) ?_
          rotate_left
          · intro wq hSw; clear hSw; go_simp; (try with_reducible rfl)
          (try simp only [List.getElem_toArray, List.getElem_cons_zero, List.getElem_cons_succ, Act.put, List.setIfInBounds_toArray, List.set_cons_zero, List.set_cons_succ])
          refine wpAnyH_take (i := 9) (v := ?_) rfl (by kernel_rfl) (by kernel_rfl) (by kernel_rfl) (fun _ _ _ h => h) (Or.inl ⟨by rfl, ?_⟩) (by assumption) ?_
          rotate_left
          · intro wq hSw; clear hSw; go_simp; (try with_reducible rfl)
          (try simp only [List.getElem_toArray, List.getElem_cons_zero, List.getElem_cons_succ, Act.put, List.setIfInBounds_toArray, List.set_cons_zero, List.set_cons_succ])
          refine wpAnyH_ready (rs := [10]) (by kernel_rfl) (by simp) ?_
          refine AllReadyH.cons (i := 10) (by rfl) ?_ (AllReadyH.nil)
          intro K' hK
          simp only [List.getElem_toArray, List.getElem_cons_zero, List.getElem_cons_succ]
          refine if_yes (by kernel_rfl) ?_
          go_big_op
          refine hK.out _ _ ?_ (fun hHeld2 => ?_)
          · exact hHeld.alloc _
          clear hK K' hHeld
          have hHeld := hHeld2
          clear hHeld2
          (try simp only [List.getElem_toArray, List.getElem_cons_zero, List.getElem_cons_succ, Act.put, List.setIfInBounds_toArray, List.set_cons_zero, List.set_cons_succ])
          have hfr := Reads.freshAs w6 #[.int .i64 1, .int .i64 3, .int .u32 r6] 73 3 1 [.int .i64 1, .int .i64 3, .int .u32 r6] rfl rfl (by decide)
          have hba : Below w6.heap.size w6 (w6.alloc (.cells #[.int .i64 1, .int .i64 3, .int .u32 r6] 73)) := keep_alloc (Below.refl _ _) _
          have OO := OO.below hba
          have hoc := own_keep hoc hba
          have hTc := hTc.below hba
          have o0 := OO.cell 0 _ rfl
          clear hba
          refine wpAnyH_ready (rs := [11]) (by kernel_rfl) (by simp) ?_
          refine AllReadyH.cons (i := 11) (by rfl) ?_ (AllReadyH.nil)
          intro K' hK
          refine step_appB rfl _ _ _ (by rfl) tyRHds (by rfl) hoc (by rfl) hfr (by simp [Value.oneCell']) q1' q2' (by have := OO.lt; simp at this ⊢; omega) ?_; intro v' w9 hown9 hg9 hbk9; obtain ⟨A9, c9, rfl, -⟩ := Reads.own hown9
          refine hK.out _ _ ?_ (fun hHeld2 => ?_)
          · exact hHeld.row hg9 (fun i hi _ => Or.inr (by have := (hoc.lt i hi).1; omega))
          clear hK K' hHeld
          have hHeld := hHeld2
          clear hHeld2
          (try simp only [List.getElem_toArray, List.getElem_cons_zero, List.getElem_cons_succ, Act.put, List.setIfInBounds_toArray, List.set_cons_zero, List.set_cons_succ])
          have OO := OO.onlyX (X := fun i => (Value.slice S j cs).ownBlock = some i) (fun e => by have := (hoc.lt _ e).1; omega) (OnlyX.grown hg9)
          have o0 := OO.cell 0 _ rfl
          have off := OO.free
          have hTc := tape_row hTc hg9 (fun e => by have := (hoc.lt _ e).1; omega)
          refine wpAnyH_take (i := 12) (v := ?_) rfl (by kernel_rfl) (by kernel_rfl) (by kernel_rfl) (fun _ _ _ h => h) (Or.inl ⟨by rfl, ?_⟩) (by assumption) ?_
          rotate_left
          · intro wq hSw; clear hSw; go_simp; (try with_reducible rfl)
          (try simp only [List.getElem_toArray, List.getElem_cons_zero, List.getElem_cons_succ, Act.put, List.setIfInBounds_toArray, List.set_cons_zero, List.set_cons_succ])
          refine wpAnyH_ready (rs := [13]) (by kernel_rfl) (by simp) ?_
          refine AllReadyH.cons (i := 13) (by rfl) ?_ (AllReadyH.nil)
          intro K' hK
          simp only [List.getElem_toArray, List.getElem_cons_zero, List.getElem_cons_succ]
          refine if_yes (by kernel_rfl) ?_
          go_big_op
          refine hK.out _ _ ?_ (fun hHeld2 => ?_)
          · exact hHeld.set (p := ⟨bp, 0, none⟩) (fun _ => Or.inr (Nat.le_refl _)) _
          clear hK K' hHeld
          have hHeld := hHeld2
          clear hHeld2
          (try simp only [List.getElem_toArray, List.getElem_cons_zero, List.getElem_cons_succ, Act.put, List.setIfInBounds_toArray, List.set_cons_zero, List.set_cons_succ])
          refine wpAnyH_done (by kernel_rfl) ?_ _
          refine NoPanic.normal ?_
          have hTf := hTc.setN (p := ⟨bp, 0, none⟩) (by show g < bp; omega) (.slice A9 (j + 1) c9)
          have hOf := OO.set 0 (.slice A9 (j + 1) c9)
          have hwf := ownsRow_setCell_below hown9 (a := ⟨bp, 0, none⟩) (by show bp < bp + 1; omega) (.slice A9 (j + 1) c9)
          have hxf := HX5.out.trans hHeld
          clear o0 off OO hTc hoc hfr
          go_wp2_with fail
          go_roundw
          case rel =>
            refine ⟨j + 1, z - 1, A9, c9, shs ++ [⟨1, 3, r6⟩], t6, rfl, by omega, by have := HZJ.out; omega, by simp [HSL.out], ?_, ?_, hOf, hTf, by omega, hxf⟩
            · intro q hq
              rcases List.mem_append.1 hq with hq | hq
              · exact HSOK.out q hq
              · simp only [List.mem_singleton] at hq; subst hq; exact ⟨rfl, by show (0 : Int) ≤ 3; omega, by show (3 : Int) ≤ 3; omega, h60, by show r6 < (8 : Int); omega⟩
            · rw [List.flatMap_append]; exact hwf
          case measure => simp [intOf]; omega
        · skip
          intro K' hK
          simp only [List.getElem_toArray, List.getElem_cons_zero, List.getElem_cons_succ]
          refine if_yes (by kernel_rfl) ?_
          go_big_op
          (go_at_call 39; rw [show wrap64 ((2 : Int) ^ min 3 64) = 8 from shl3]; refine (HNX.out _ _ 8 hTc (by omega) (by omega)).mono ?_; rintro e w6 ⟨r6, rfl, h60, h61, t6, ht6, hTc', hg6⟩)
          refine hK.out _ _ ?_ (fun hHeld2 => ?_)
          · exact hHeld.trans ((HG1.out _ _ hg6).mono (fun i _ e => Or.inl e))
          clear hK K' hHeld
          have hHeld := hHeld2
          clear hHeld2
          (try simp only [List.getElem_toArray, List.getElem_cons_zero, List.getElem_cons_succ, Act.put, List.setIfInBounds_toArray, List.set_cons_zero, List.set_cons_succ])
          have OO := OO.onlyN hg6 (by omega)
          have hoc := own_onlyX hoc (HG1.out _ _ hg6) (fun i hi e => by have := (hoc.lt i hi).1; omega)
          have hTc := hTc'
          have o0 := OO.cell 0 _ rfl
          have h62 : r6 < 8 := by omega
          clear hTc' h61 hg6
          have w6u : IntKind.u32.wrap r6 = r6 := IntWalk.u32_in _ (by omega)
          refine wpAnyH_take (i := 8) (v := ?_) rfl (by kernel_rfl) (by kernel_rfl) (by kernel_rfl) (fun _ _ _ h => h) (Or.inl ⟨by rfl, ?_⟩) (by assumption) ?_
          rotate_left
          · intro wq hSw; clear hSw; go_simp; (try with_reducible rfl)
          (try simp only [List.getElem_toArray, List.getElem_cons_zero, List.getElem_cons_succ, Act.put, List.setIfInBounds_toArray, List.set_cons_zero, List.set_cons_succ])
          refine wpAnyH_take (i := 9) (v := ?_) rfl (by kernel_rfl) (by kernel_rfl) (by kernel_rfl) (fun _ _ _ h => h) (Or.inl ⟨by rfl, ?_⟩) (by assumption) ?_
          rotate_left
          · intro wq hSw; clear hSw; go_simp; (try with_reducible rfl)
          (try simp only [List.getElem_toArray, List.getElem_cons_zero, List.getElem_cons_succ, Act.put, List.setIfInBounds_toArray, List.set_cons_zero, List.set_cons_succ])
          refine wpAnyH_ready (rs := [1, 10]) (by kernel_rfl) (by simp) ?_
          refine AllReadyH.cons (i := 1) (by rfl) ?_ (AllReadyH.cons (i := 10) (by rfl) ?_ (AllReadyH.nil))
          · skip
            intro K' hK
            simp only [List.getElem_toArray, List.getElem_cons_zero, List.getElem_cons_succ]
            refine if_yes (by kernel_rfl) ?_
            go_big_op
            refine hK.out _ _ ?_ (fun hHeld2 => ?_)
            · exact hHeld
            clear hK K' hHeld
            have hHeld := hHeld2
            clear hHeld2
            (try simp only [List.getElem_toArray, List.getElem_cons_zero, List.getElem_cons_succ, Act.put, List.setIfInBounds_toArray, List.set_cons_zero, List.set_cons_succ])
            refine wpAnyH_ready (rs := [10]) (by kernel_rfl) (by simp) ?_
            refine AllReadyH.cons (i := 10) (by rfl) ?_ (AllReadyH.nil)
            intro K' hK
            simp only [List.getElem_toArray, List.getElem_cons_zero, List.getElem_cons_succ]
            refine if_yes (by kernel_rfl) ?_
            go_big_op
            refine hK.out _ _ ?_ (fun hHeld2 => ?_)
            · exact hHeld.alloc _
            clear hK K' hHeld
            have hHeld := hHeld2
            clear hHeld2
            (try simp only [List.getElem_toArray, List.getElem_cons_zero, List.getElem_cons_succ, Act.put, List.setIfInBounds_toArray, List.set_cons_zero, List.set_cons_succ])
            have hfr := Reads.freshAs w6 #[.int .i64 1, .int .i64 3, .int .u32 r6] 73 3 1 [.int .i64 1, .int .i64 3, .int .u32 r6] rfl rfl (by decide)
            have hba : Below w6.heap.size w6 (w6.alloc (.cells #[.int .i64 1, .int .i64 3, .int .u32 r6] 73)) := keep_alloc (Below.refl _ _) _
            have OO := OO.below hba
            have hoc := own_keep hoc hba
            have hTc := hTc.below hba
            have o0 := OO.cell 0 _ rfl
            clear hba
            refine wpAnyH_ready (rs := [11]) (by kernel_rfl) (by simp) ?_
            refine AllReadyH.cons (i := 11) (by rfl) ?_ (AllReadyH.nil)
            intro K' hK
            refine step_appB rfl _ _ _ (by rfl) tyRHds (by rfl) hoc (by rfl) hfr (by simp [Value.oneCell']) q1' q2' (by have := OO.lt; simp at this ⊢; omega) ?_; intro v' w9 hown9 hg9 hbk9; obtain ⟨A9, c9, rfl, -⟩ := Reads.own hown9
            refine hK.out _ _ ?_ (fun hHeld2 => ?_)
            · exact hHeld.row hg9 (fun i hi _ => Or.inr (by have := (hoc.lt i hi).1; omega))
            clear hK K' hHeld
            have hHeld := hHeld2
            clear hHeld2
            (try simp only [List.getElem_toArray, List.getElem_cons_zero, List.getElem_cons_succ, Act.put, List.setIfInBounds_toArray, List.set_cons_zero, List.set_cons_succ])
            have OO := OO.onlyX (X := fun i => (Value.slice S j cs).ownBlock = some i) (fun e => by have := (hoc.lt _ e).1; omega) (OnlyX.grown hg9)
            have o0 := OO.cell 0 _ rfl
            have off := OO.free
            have hTc := tape_row hTc hg9 (fun e => by have := (hoc.lt _ e).1; omega)
            refine wpAnyH_take (i := 12) (v := ?_) rfl (by kernel_rfl) (by kernel_rfl) (by kernel_rfl) (fun _ _ _ h => h) (Or.inl ⟨by rfl, ?_⟩) (by assumption) ?_
            rotate_left
            · intro wq hSw; clear hSw; go_simp; (try with_reducible rfl)
            (try simp only [List.getElem_toArray, List.getElem_cons_zero, List.getElem_cons_succ, Act.put, List.setIfInBounds_toArray, List.set_cons_zero, List.set_cons_succ])
            refine wpAnyH_ready (rs := [13]) (by kernel_rfl) (by simp) ?_
            refine AllReadyH.cons (i := 13) (by rfl) ?_ (AllReadyH.nil)
            intro K' hK
            simp only [List.getElem_toArray, List.getElem_cons_zero, List.getElem_cons_succ]
            refine if_yes (by kernel_rfl) ?_
            go_big_op
            refine hK.out _ _ ?_ (fun hHeld2 => ?_)
            · exact hHeld.set (p := ⟨bp, 0, none⟩) (fun _ => Or.inr (Nat.le_refl _)) _
            clear hK K' hHeld
            have hHeld := hHeld2
            clear hHeld2
            (try simp only [List.getElem_toArray, List.getElem_cons_zero, List.getElem_cons_succ, Act.put, List.setIfInBounds_toArray, List.set_cons_zero, List.set_cons_succ])
            refine wpAnyH_done (by kernel_rfl) ?_ _
            refine NoPanic.normal ?_
            have hTf := hTc.setN (p := ⟨bp, 0, none⟩) (by show g < bp; omega) (.slice A9 (j + 1) c9)
            have hOf := OO.set 0 (.slice A9 (j + 1) c9)
            have hwf := ownsRow_setCell_below hown9 (a := ⟨bp, 0, none⟩) (by show bp < bp + 1; omega) (.slice A9 (j + 1) c9)
            have hxf := HX5.out.trans hHeld
            clear o0 off OO hTc hoc hfr
            go_wp2_with fail
            go_roundw
            case rel =>
              refine ⟨j + 1, z - 1, A9, c9, shs ++ [⟨1, 3, r6⟩], t6, rfl, by omega, by have := HZJ.out; omega, by simp [HSL.out], ?_, ?_, hOf, hTf, by omega, hxf⟩
              · intro q hq
                rcases List.mem_append.1 hq with hq | hq
                · exact HSOK.out q hq
                · simp only [List.mem_singleton] at hq; subst hq; exact ⟨rfl, by show (0 : Int) ≤ 3; omega, by show (3 : Int) ≤ 3; omega, h60, by show r6 < (8 : Int); omega⟩
              · rw [List.flatMap_append]; exact hwf
            case measure => simp [intOf]; omega
          · skip
            intro K' hK
            simp only [List.getElem_toArray, List.getElem_cons_zero, List.getElem_cons_succ]
            refine if_yes (by kernel_rfl) ?_
            go_big_op
            refine hK.out _ _ ?_ (fun hHeld2 => ?_)
            · exact hHeld.alloc _
            clear hK K' hHeld
            have hHeld := hHeld2
            clear hHeld2
            (try simp only [List.getElem_toArray, List.getElem_cons_zero, List.getElem_cons_succ, Act.put, List.setIfInBounds_toArray, List.set_cons_zero, List.set_cons_succ])
            have hfr := Reads.freshAs w6 #[.int .i64 1, .int .i64 3, .int .u32 r6] 73 3 1 [.int .i64 1, .int .i64 3, .int .u32 r6] rfl rfl (by decide)
            have hba : Below w6.heap.size w6 (w6.alloc (.cells #[.int .i64 1, .int .i64 3, .int .u32 r6] 73)) := keep_alloc (Below.refl _ _) _
            have OO := OO.below hba
            have hoc := own_keep hoc hba
            have hTc := hTc.below hba
            have o0 := OO.cell 0 _ rfl
            clear hba
            refine wpAnyH_ready (rs := [1]) (by kernel_rfl) (by simp) ?_
            refine AllReadyH.cons (i := 1) (by rfl) ?_ (AllReadyH.nil)
            intro K' hK
            simp only [List.getElem_toArray, List.getElem_cons_zero, List.getElem_cons_succ]
            refine if_yes (by kernel_rfl) ?_
            go_big_op
            refine hK.out _ _ ?_ (fun hHeld2 => ?_)
            · exact hHeld
            clear hK K' hHeld
            have hHeld := hHeld2
            clear hHeld2
            (try simp only [List.getElem_toArray, List.getElem_cons_zero, List.getElem_cons_succ, Act.put, List.setIfInBounds_toArray, List.set_cons_zero, List.set_cons_succ])
            refine wpAnyH_ready (rs := [11]) (by kernel_rfl) (by simp) ?_
            refine AllReadyH.cons (i := 11) (by rfl) ?_ (AllReadyH.nil)
            intro K' hK
            refine step_appB rfl _ _ _ (by rfl) tyRHds (by rfl) hoc (by rfl) hfr (by simp [Value.oneCell']) q1' q2' (by have := OO.lt; simp at this ⊢; omega) ?_; intro v' w9 hown9 hg9 hbk9; obtain ⟨A9, c9, rfl, -⟩ := Reads.own hown9
            refine hK.out _ _ ?_ (fun hHeld2 => ?_)
            · exact hHeld.row hg9 (fun i hi _ => Or.inr (by have := (hoc.lt i hi).1; omega))
            clear hK K' hHeld
            have hHeld := hHeld2
            clear hHeld2
            (try simp only [List.getElem_toArray, List.getElem_cons_zero, List.getElem_cons_succ, Act.put, List.setIfInBounds_toArray, List.set_cons_zero, List.set_cons_succ])
            have OO := OO.onlyX (X := fun i => (Value.slice S j cs).ownBlock = some i) (fun e => by have := (hoc.lt _ e).1; omega) (OnlyX.grown hg9)
            have o0 := OO.cell 0 _ rfl
            have off := OO.free
            have hTc := tape_row hTc hg9 (fun e => by have := (hoc.lt _ e).1; omega)
            refine wpAnyH_take (i := 12) (v := ?_) rfl (by kernel_rfl) (by kernel_rfl) (by kernel_rfl) (fun _ _ _ h => h) (Or.inl ⟨by rfl, ?_⟩) (by assumption) ?_
            rotate_left
            · intro wq hSw; clear hSw; go_simp; (try with_reducible rfl)
            (try simp only [List.getElem_toArray, List.getElem_cons_zero, List.getElem_cons_succ, Act.put, List.setIfInBounds_toArray, List.set_cons_zero, List.set_cons_succ])
            refine wpAnyH_ready (rs := [13]) (by kernel_rfl) (by simp) ?_
            refine AllReadyH.cons (i := 13) (by rfl) ?_ (AllReadyH.nil)
            intro K' hK
            simp only [List.getElem_toArray, List.getElem_cons_zero, List.getElem_cons_succ]
            refine if_yes (by kernel_rfl) ?_
            go_big_op
            refine hK.out _ _ ?_ (fun hHeld2 => ?_)
            · exact hHeld.set (p := ⟨bp, 0, none⟩) (fun _ => Or.inr (Nat.le_refl _)) _
            clear hK K' hHeld
            have hHeld := hHeld2
            clear hHeld2
            (try simp only [List.getElem_toArray, List.getElem_cons_zero, List.getElem_cons_succ, Act.put, List.setIfInBounds_toArray, List.set_cons_zero, List.set_cons_succ])
            refine wpAnyH_done (by kernel_rfl) ?_ _
            refine NoPanic.normal ?_
            have hTf := hTc.setN (p := ⟨bp, 0, none⟩) (by show g < bp; omega) (.slice A9 (j + 1) c9)
            have hOf := OO.set 0 (.slice A9 (j + 1) c9)
            have hwf := ownsRow_setCell_below hown9 (a := ⟨bp, 0, none⟩) (by show bp < bp + 1; omega) (.slice A9 (j + 1) c9)
            have hxf := HX5.out.trans hHeld
            clear o0 off OO hTc hoc hfr
            go_wp2_with fail
            go_roundw
            case rel =>
              refine ⟨j + 1, z - 1, A9, c9, shs ++ [⟨1, 3, r6⟩], t6, rfl, by omega, by have := HZJ.out; omega, by simp [HSL.out], ?_, ?_, hOf, hTf, by omega, hxf⟩
              · intro q hq
                rcases List.mem_append.1 hq with hq | hq
                · exact HSOK.out q hq
                · simp only [List.mem_singleton] at hq; subst hq; exact ⟨rfl, by show (0 : Int) ≤ 3; omega, by show (3 : Int) ≤ 3; omega, h60, by show r6 < (8 : Int); omega⟩
              · rw [List.flatMap_append]; exact hwf
            case measure => simp [intOf]; omega
    · have hz00 : z = 0 := by omega
      subst hz00
      have hd : decide ((0 : Int) < 0) = false := by simp
      have hj1 : 1 ≤ j := by omega
      clear hz hzj
      go_wp2_with fail
      obtain ⟨w5, rfl⟩ : ∃ w5, w5 = wr := ⟨_, rfl⟩
      have hbp := HBP.out
      have hX1r : OnlyX (fun i => i = g ∨ i = bF) w1 w5 := ((HX3.out.mono (fun i _ e => Or.inl e)).trans hX4).mono (fun i hi h => Or.inl (by rcases h with h | h; (· exact h); (· omega)))
      have hXw : OnlyX (fun i => i = g) w w5 := (HX1.out.trans HX3.out).more hX4 (fun i hi h => by rcases h with h | h; (· exact h); (· have := HX1.out.size; omega))
      have hb4 : t4 ≤ t + 47 := by omega
      have hM5 := HM1.out.1.onlyX (hX1r.mono (Y := (fun i => i ≤ r0 ∨ i = bF)) (fun q _ h => by rcases h with h | h; (· exact Or.inl (by omega)); (· exact Or.inr h)))
      have hown5 := own_onlyX hown3 hX4 (fun i hi e => by have hi' : bF = i := by { have h := Option.some.inj hi; exact h }; rcases e with e | e <;> omega)
      have hNF := HNF.out
      have hN5 := HNN.out.onlyX (X := fun i => i = g) (fun b off hn e hb => hNF b off hn e hb) hXw
      obtain ⟨AS, cS, eS, hS5⟩ := Reads.own hownS
      injection eS with x1 x2 x3
      subst x1 x3
      have hSF : FarX (fun i => i ≤ r0 ∨ i = bF) j S := fun b off hn e hx => by have := (hownS.lt b (by rw [e]; rfl)).1; omega
      have hNX : FarX (fun i => i = g ∨ i = bF ∨ i = r0) nn N := fun b off hn e hx => by
        obtain ⟨b', off', e', hb, -⟩ := HNN.out.at_ hn
        rw [e] at e'; cases e'
        have := HR0.out
        rcases hx with hx | hx | hx
        · exact hNF b off hn e hx
        · omega
        · omega
      have HNX3 := Lib.hid hNX
      have HR0' := Lib.hid HR0.out
      have R5 := R3.onlyX (X := (fun i => i = g ∨ bp ≤ i)) (by omega) hX4
      have HS5 := Lib.hid hS5
      have HN5 := Lib.hid hN5
      have HXW := Lib.hid hXw
      have HR5 := Lib.hid R5
      have HP4 := Lib.hid P4
      have HSF := Lib.hid hSF
      have HNF2 := Lib.hid hNF
      have hs5 : bp < w5.heap.size := P4.lt
      have HJ3 := Lib.hid (show 1 ≤ j ∧ j ≤ 3 from ⟨hj1, hj3⟩)
      have HSG := Lib.hid (show Stage 0 j fns nats fcs fns from fun a x f h1 h2 => ⟨fun h => by omega, (HM1.out.2 a x f h1 h2).2⟩)
      clear hX1r hXw hbp hownS hS5 hSF R5 R3 P3 hown3 hX4 hN5 hNF hNX HX1 HX3 hj1 hj3 HM1 HR0 P4 hz0
      go_loopw [8] (fun x wq => ∃ (i : Nat) (fcs' : List FC) (fns' : List Fn) (tq : Nat), i ≤ nf ∧ x = .int .i64 i ∧ wq.ownsRow w0.heap.size 44 4 (.slice (some ⟨bF, 0, none⟩) nf cf) nf (fcs'.flatMap fcCells) ∧ FnsM wq (fun i => i ≤ r0 ∨ i = bF) fcs' fns' ∧ Stage i j fns nats fcs' fns' ∧ SigEq fns fns' ∧ TapeAt wq g tq ∧ tq ≤ t4 + 330 * i ∧ OnlyX (fun i => i = g ∨ i = bF) w5 wq) (fun x _ => nf - (intOf x).toNat)
      case atStart => exact ⟨0, fcs, fns, t4, Nat.zero_le _, rfl, hown5, hM5, HSG.out, SigEq.refl, hT4, by omega, OnlyX.refl⟩
      case round =>
        obtain ⟨i, fcs', fns', t6, hi, rfl, hown6, hM6, hSt, hSig, hT6, ht6, hX6⟩ := hrel
        obtain ⟨w6, rfl⟩ : ∃ w6, w6 = wr := ⟨_, rfl⟩
        have hb6 : t6 ≤ t + 47 + 330 * i := by omega
        have P6 := HP4.out.onlyX (X := (fun i => i = g ∨ i = bF)) (by omega) hX6
        have p1 := P6.cell 1 _ rfl
        have hlenf := (Reads.own hown6).choose_spec.choose_spec.2.length fcCells_len (by omega)
        have hlenn : fns'.length = nf := by rw [← hM6.1]; exact hlenf
        have HM6 := Lib.hid hM6
        have HST := Lib.hid hSt
        have HSIG := Lib.hid hSig
        clear hown5 hM5 hT4
        by_cases hlt : i < nf
        · obtain ⟨x, hx⟩ : ∃ x, fcs'[i]? = some x := ⟨_, List.getElem?_eq_getElem (by omega)⟩
          obtain ⟨f, hf⟩ : ∃ f, fns'[i]? = some f := ⟨_, List.getElem?_eq_getElem (by omega)⟩
          have hfi := hM6.2 i x f hx hf
          obtain ⟨b1, b2, b3, b4⟩ := (hSt i x f hx hf).2 (Nat.le_refl _)
          obtain ⟨p, A, n, c, r, B, m, d⟩ := x
          obtain ⟨fp, gl, fr, fins⟩ := f
          obtain rfl : p = fp := hfi.p
          obtain rfl : r = fr := hfi.r
          dsimp only at b1 b2 b3 b4
          subst b1 b2 b3 b4
          have hlocs : Reads w6 w6.heap.size 1 A n c (gl.flatMap intCells) := hfi.locs
          have hlf : FarX (fun i => i ≤ r0 ∨ i = bF) n A := hfi.lf
          have hok : HeadOk p gl r := hfi.ok
          have HHO := Lib.hid hok
          have hn : gl.length = n := hlocs.length (fun _ => rfl) (by omega)
          have hn4 : 4 ≤ n := by have := hok.n4; omega
          have hn7 : n ≤ 7 := by have := hok.n7; omega
          have HN := Lib.hid hn
          have HFX := Lib.hid hx
          have HFF := Lib.hid hf
          have i0 : (0 : Int) ≤ (i : Int) := by omega
          have i1 : (i : Int) < (nf : Int) := by omega
          have hd1 : decide ((i : Int) < (nf : Int)) = true := decide_eq_true i1
          have hd2 : decide (i < nf) = true := decide_eq_true hlt
          have wi : IntKind.i64.wrap ((i : Int) + 1) = (i : Int) + 1 := IntWalk.i64_in _ (by omega)
          clear hx hf hfi hn hok hM6 hSt hSig hlenf hlenn
          go_wp2_with fail
          refine (HNX.out _ _ 22 hT6 (by omega) (by omega)).mono ?_
          rintro e w7 ⟨r7, rfl, h70, h71, t7, ht7, hT7, hg7⟩
          obtain ⟨m7, rfl⟩ : ∃ m7 : Nat, r7 = m7 := ⟨r7.toNat, by omega⟩
          have w37 : IntKind.i64.wrap (3 + (m7 : Int)) = 3 + (m7 : Int) := IntWalk.i64_in _ (by omega)
          have hown7 := own_onlyX hown6 (HG1.out _ _ hg7) (fun i hi e => by have hi' : bF = i := by { have h := Option.some.inj hi; exact h }; omega)
          have HX67 := Lib.hid (show OnlyX (fun i => i = g ∨ i = bF) w6 w7 from (HG1.out _ _ hg7).mono fun i _ e => Or.inl e)
          have hm7 : m7 < 22 := by omega
          have P7 := P6.onlyX (X := (fun i => i = g ∨ i = bF)) (by omega) HX67.out
          have q0 := P7.cell 0 _ rfl
          have q1 := P7.cell 1 _ rfl
          have q2 := P7.cell 2 _ rfl
          have HP7 := Lib.hid P7
          have hs7 : bp < w7.heap.size := P7.lt
          clear h70 h71 hg7 hT6 hown6 P6 p1 P7
          go_wp2_with fail
          obtain ⟨cnt, hcnt⟩ : ∃ cnt : Nat, 3 + (m7 : Int) = (cnt : Int) := ⟨3 + m7, by omega⟩
          rw [hcnt]
          have hc3 : 3 ≤ cnt ∧ cnt ≤ 24 := by omega
          obtain ⟨b3, hb3⟩ : ∃ b3, w7.heap.size = b3 := ⟨_, rfl⟩
          have HB3 := Lib.hid hb3
          have hb3p : bp < b3 := by omega
          have hM7 := HM6.out.onlyX (HX67.out.mono (Y := (fun i => i ≤ r0 ∨ i = bF)) (fun q _ h => by rcases h with h | h; (· exact Or.inl (by omega)); (· exact Or.inr h)))
          have HM7 := Lib.hid hM7
          have hys : (fcs'.set i ⟨p, A, n, c, r, none, 0, 0⟩) = fcs' := set_same HFX.out
          have HYS := Lib.hid hys
          clear hcnt w37 hm7 hb3 hM7 hys hs7 hlocs q0 q1 q2
          go_loopw [11] (fun y wq => ∃ (a : Nat) (B : Option Addr) (e : Nat) (xs : List NI) (tq : Nat), a ≤ cnt ∧ y = .int .i64 a ∧ wq.ownsRow b3 55 5 (.slice B a e) a (xs.flatMap insCells) ∧ xs.length = a ∧ wq.ownsRow w0.heap.size 44 4 (.slice (some ⟨bF, 0, none⟩) nf cf) nf ((fcs'.set i ⟨p, A, n, c, r, B, a, e⟩).flatMap fcCells) ∧ (∀ x ∈ xs, suitM j (cnt + 1) fns nats gl r x = true ∧ x.ok64) ∧ TapeAt wq g tq ∧ tq ≤ t7 + 12 * a ∧ OnlyX (fun i => i = g ∨ i = bF) w7 wq) (fun y _ => cnt - (intOf y).toNat)
          case atStart => exact ⟨0, none, 0, [], t7, Nat.zero_le _, rfl, World.ownsRow_nil _ _ _ _, rfl, by rw [HYS.out]; exact hown7, fun x hx => by simp at hx, hT7, by omega, OnlyX.refl⟩
          case round =>
            obtain ⟨a, B, e, xs, t8, ha, rfl, hownI, hxl, hownF, hxs, hT8, ht8, hX8⟩ := hrel
            obtain ⟨w8, rfl⟩ : ∃ w8, w8 = wr := ⟨_, rfl⟩
            have HXL := Lib.hid hxl
            have HXS := Lib.hid hxs
            have hyi : (fcs'.set i ⟨p, A, n, c, r, B, a, e⟩)[i]? = some ⟨p, A, n, c, r, B, a, e⟩ := by rw [List.getElem?_set_self (List.getElem?_eq_some_iff.1 HFX.out).1]
            have P8 := HP7.out.onlyX (X := (fun i => i = g ∨ i = bF)) (by omega) hX8
            have p0 := P8.cell 0 _ rfl
            have p1 := P8.cell 1 _ rfl
            have p2 := P8.cell 2 _ rfl
            have HYI := Lib.hid hyi
            have hMd : FnsM (World.drew w8) (fun i => i ≤ r0 ∨ i = bF) fcs' fns' := HM7.out.onlyX (hX8.drew.mono (Y := (fun i => i ≤ r0 ∨ i = bF)) (fun q _ h => by rcases h with h | h; (· exact Or.inl (by omega)); (· exact Or.inr h)))
            have hAd : Reads (World.drew w8) (World.drew w8).heap.size 1 A n c (gl.flatMap intCells) := (hMd.2 i _ _ HFX.out HFF.out).locs
            have hFA : FarA g n A := fun b off hn e hb => (hMd.2 i _ _ HFX.out HFF.out).lf b off hn e (Or.inl (by omega))
            have hTc : TapeAt (World.drew w8) g t8 := hT8.below (Below.refl _ _).drew
            have hFc := own_keep hownF (Below.refl _ _).drew
            have hIc := own_keep hownI (Below.refl _ _).drew
            have hHX := hX8.drew
            have HHX := Lib.hid hHX
            have b3w : b3 ≤ (World.drew w8).heap.size := by have := HB3.out; have := hHX.size; omega
            have f0 : (World.drew w8).cell? ⟨bF, i * 4, none⟩ = some (.int .i64 p) := own_at (j := 0) hFc fcCells_len HYI.out rfl
            have f1 : (World.drew w8).cell? ⟨bF, i * 4 + 1, none⟩ = some (.slice A n c) := own_at (j := 1) hFc fcCells_len HYI.out rfl
            have f2 : (World.drew w8).cell? ⟨bF, i * 4 + 2, none⟩ = some (.int .i64 r) := own_at (j := 2) hFc fcCells_len HYI.out rfl
            have f3 : (World.drew w8).cell? ⟨bF, i * 4 + 3, none⟩ = some (.slice B a e) := own_at (j := 3) hFc fcCells_len HYI.out rfl
            clear hxl hxs hyi hT7 hown7 P8 hT8 hownI hownF hHX
            by_cases hac : a < cnt
            · have hd3 : decide ((a : Int) < (cnt : Int)) = true := decide_eq_true (by omega)
              have hd4 : decide (a < cnt) = true := decide_eq_true hac
              have wa : IntKind.i64.wrap ((a : Int) + 1) = (a : Int) + 1 := IntWalk.i64_in _ (by omega)
              have q1' : a + 1 ≤ maxLen := by unfold maxLen; omega
              have q2' : (a + 1) * 40 ≤ 140737488355328 := by omega
              obtain ⟨AF, cF, eF, hFR⟩ := Reads.own hFc
              injection eF with x1 x2 x3
              subst x1 x3
              have hPI := progIn_of (X := (fun i => i ≤ r0 ∨ i = bF)) (g := g) hMd HSIG.out (Or.inl (by omega)) hFR (fun b off _ e => by cases e; omega) (by simp) (fun jj y hy => by
                rcases set_case hy with ⟨rfl, rfl⟩ | ⟨_, hy⟩
                · exact ⟨_, HFX.out, rfl, rfl, rfl, rfl, rfl⟩
                · exact ⟨y, hy, rfl, rfl, rfl, rfl, rfl⟩) (HN5.out.onlyX HNX3.out ((hX6.trans HX67.out).trans HHX.out |>.mono (Y := (fun i => i = g ∨ i = bF ∨ i = r0)) (fun q _ h => by rcases h with h | h; (· exact Or.inl h); (· exact Or.inr (Or.inl h))))) HNF2.out hnf1 hnf3 hnn HNATS.out
              have HCALL := Lib.hid (HINC.out g t8 S j cs _ nf cf N nn cn _ fns nats p A n c r B a e gl a cnt (World.drew w8) hTc (by omega) hAd hFA HHO.out hPI HJ3.out.1 HJ3.out.2 (by omega) (by omega))
              clear hMd hAd hFA hFR hPI
              go_upto_region 15 with fail
              refine wp_region_noPanic ?_
              refine wp_region_held_drew (S := fun u => OnlyX (fun q => q = g ∨ q = bF ∨ b3 ≤ q) w8 u) (by kernel_rfl) (OnlyX.refl.drew) (fun hHeld => ?_)
              refine wpAnyH_take (i := 0) (v := ?_) rfl (by kernel_rfl) (by kernel_rfl) (by kernel_rfl) (fun _ _ _ h => h) (Or.inl ⟨by rfl, ?_⟩) (by assumption) ?_
              rotate_left
              · intro wq hSw; clear hSw; go_simp; (try with_reducible rfl)
              (try simp only [List.getElem_toArray, List.getElem_cons_zero, List.getElem_cons_succ, Act.put, List.setIfInBounds_toArray, List.set_cons_zero, List.set_cons_succ])
              refine wpAnyH_take (i := 1) (v := ?_) rfl (by kernel_rfl) (by kernel_rfl) (by kernel_rfl) (fun _ _ _ h => h) (Or.inl ⟨by rfl, ?_⟩) (by assumption) ?_
              rotate_left
              · intro wq hSw; clear hSw; go_simp; (try with_reducible rfl)
              (try simp only [List.getElem_toArray, List.getElem_cons_zero, List.getElem_cons_succ, Act.put, List.setIfInBounds_toArray, List.set_cons_zero, List.set_cons_succ])
              refine wpAnyH_take (i := 2) (v := ?_) rfl (by kernel_rfl) (by kernel_rfl) (by kernel_rfl) (fun _ _ _ h => h) (Or.inl ⟨by rfl, ?_⟩) (by assumption) ?_
              rotate_left
              · intro wq hSw; clear hSw; go_simp; (try with_reducible rfl)
              (try simp only [List.getElem_toArray, List.getElem_cons_zero, List.getElem_cons_succ, Act.put, List.setIfInBounds_toArray, List.set_cons_zero, List.set_cons_succ])
              refine wpAnyH_take (i := 3) (v := ?_) rfl (by kernel_rfl) (by kernel_rfl) (by kernel_rfl) (fun _ _ _ h => h) (Or.inl ⟨by rfl, ?_⟩) (by assumption) ?_
              rotate_left
              · intro wq hSw; clear hSw; go_simp; (try with_reducible rfl)
              (try simp only [List.getElem_toArray, List.getElem_cons_zero, List.getElem_cons_succ, Act.put, List.setIfInBounds_toArray, List.set_cons_zero, List.set_cons_succ])
              refine wpAnyH_take (i := 5) (v := ?_) rfl (by kernel_rfl) (by kernel_rfl) (by kernel_rfl) (fun _ _ _ h => h) (Or.inl ⟨by rfl, ?_⟩) (by assumption) ?_
              rotate_left
              · intro wq hSw; clear hSw; go_simp; (try with_reducible rfl)
              (try simp only [List.getElem_toArray, List.getElem_cons_zero, List.getElem_cons_succ, Act.put, List.setIfInBounds_toArray, List.set_cons_zero, List.set_cons_succ])
              refine wpAnyH_take (i := 6) (v := ?_) rfl (by kernel_rfl) (by kernel_rfl) (by kernel_rfl) (fun _ _ _ h => h) (Or.inl ⟨by rfl, ?_⟩) (by assumption) ?_
              rotate_left
              · intro wq hSw; have z0 := hSw.cell p0 (by omega); have z1 := hSw.cell p1 (by omega); have z2 := hSw.cell p2 (by omega); clear hSw; go_simp; (try with_reducible rfl)
              (try simp only [List.getElem_toArray, List.getElem_cons_zero, List.getElem_cons_succ, Act.put, List.setIfInBounds_toArray, List.set_cons_zero, List.set_cons_succ])
              refine wpAnyH_take (i := 7) (v := ?_) rfl (by kernel_rfl) (by kernel_rfl) (by kernel_rfl) (fun _ _ _ h => h) (Or.inl ⟨by rfl, ?_⟩) (by assumption) ?_
              rotate_left
              · intro wq hSw; clear hSw; go_simp; (try with_reducible rfl)
              (try simp only [List.getElem_toArray, List.getElem_cons_zero, List.getElem_cons_succ, Act.put, List.setIfInBounds_toArray, List.set_cons_zero, List.set_cons_succ])
              refine wpAnyH_take (i := 8) (v := ?_) rfl (by kernel_rfl) (by kernel_rfl) (by kernel_rfl) (fun _ _ _ h => h) (Or.inl ⟨by rfl, ?_⟩) (by assumption) ?_
              rotate_left
              · intro wq hSw; clear hSw; go_simp; (try with_reducible rfl)
              (try simp only [List.getElem_toArray, List.getElem_cons_zero, List.getElem_cons_succ, Act.put, List.setIfInBounds_toArray, List.set_cons_zero, List.set_cons_succ])
              refine wpAnyH_take (i := 10) (v := ?_) rfl (by kernel_rfl) (by kernel_rfl) (by kernel_rfl) (fun _ _ _ h => h) (Or.inl ⟨by rfl, ?_⟩) (by assumption) ?_
              rotate_left
              · intro wq hSw; clear hSw; go_simp; (try with_reducible rfl)
              (try simp only [List.getElem_toArray, List.getElem_cons_zero, List.getElem_cons_succ, Act.put, List.setIfInBounds_toArray, List.set_cons_zero, List.set_cons_succ])
              refine wpAnyH_take (i := 11) (v := ?_) rfl (by kernel_rfl) (by kernel_rfl) (by kernel_rfl) (fun _ _ _ h => h) (Or.inl ⟨by rfl, ?_⟩) (by assumption) ?_
              rotate_left
              · intro wq hSw; clear hSw; go_simp; (try with_reducible rfl)
              (try simp only [List.getElem_toArray, List.getElem_cons_zero, List.getElem_cons_succ, Act.put, List.setIfInBounds_toArray, List.set_cons_zero, List.set_cons_succ])
              refine wpAnyH_ready (rs := [4, 9]) (by kernel_rfl) (by simp) ?_
              refine AllReadyH.cons (i := 4) (by rfl) ?_ (AllReadyH.cons (i := 9) (by rfl) ?_ (AllReadyH.nil))
              · skip
                intro K' hK
                simp only [List.getElem_toArray, List.getElem_cons_zero, List.getElem_cons_succ]
                refine if_yes (by kernel_rfl) ?_
                go_big_op
                refine hK.out _ _ ?_ (fun hHeld2 => ?_)
                · exact hHeld
                clear hK K' hHeld
                have hHeld := hHeld2
                clear hHeld2
                (try simp only [List.getElem_toArray, List.getElem_cons_zero, List.getElem_cons_succ, Act.put, List.setIfInBounds_toArray, List.set_cons_zero, List.set_cons_succ])
                refine wpAnyH_ready (rs := [9]) (by kernel_rfl) (by simp) ?_
                refine AllReadyH.cons (i := 9) (by rfl) ?_ (AllReadyH.nil)
                intro K' hK
                simp only [List.getElem_toArray, List.getElem_cons_zero, List.getElem_cons_succ]
                refine if_yes (by kernel_rfl) ?_
                go_big_op
                refine hK.out _ _ ?_ (fun hHeld2 => ?_)
                · exact hHeld
                clear hK K' hHeld
                have hHeld := hHeld2
                clear hHeld2
                (try simp only [List.getElem_toArray, List.getElem_cons_zero, List.getElem_cons_succ, Act.put, List.setIfInBounds_toArray, List.set_cons_zero, List.set_cons_succ])
                refine wpAnyH_ready (rs := [12]) (by kernel_rfl) (by simp) ?_
                refine AllReadyH.cons (i := 12) (by rfl) ?_ (AllReadyH.nil)
                intro K' hK
                simp only [List.getElem_toArray, List.getElem_cons_zero, List.getElem_cons_succ]
                refine if_yes (by kernel_rfl) ?_
                go_big_op
                (go_at_call 56; refine HCALL.out.mono ?_; rintro e w9 ⟨⟨xo, xa, xb, xc, xk⟩, rfl, hsu9, hok9, t9, ht9, hTc', hg9⟩)
                refine hK.out _ _ ?_ (fun hHeld2 => ?_)
                · exact hHeld.trans ((HG1.out _ _ hg9).mono (fun q _ e => Or.inl e))
                clear hK K' hHeld
                have hHeld := hHeld2
                clear hHeld2
                (try simp only [List.getElem_toArray, List.getElem_cons_zero, List.getElem_cons_succ, Act.put, List.setIfInBounds_toArray, List.set_cons_zero, List.set_cons_succ])
                have hFc := own_onlyX hFc (HG1.out _ _ hg9) (fun q hq e => by have hq' : bF = q := Option.some.inj hq; omega)
                have hIc := own_onlyX hIc (HG1.out _ _ hg9) (fun q hq e => by have := (hIc.lt q hq).1; omega)
                have b3w : b3 ≤ w9.heap.size := Nat.le_trans b3w hg9.size
                have f0 : (w9).cell? ⟨bF, i * 4, none⟩ = some (.int .i64 p) := own_at (j := 0) hFc fcCells_len HYI.out rfl
                have f1 : (w9).cell? ⟨bF, i * 4 + 1, none⟩ = some (.slice A n c) := own_at (j := 1) hFc fcCells_len HYI.out rfl
                have f2 : (w9).cell? ⟨bF, i * 4 + 2, none⟩ = some (.int .i64 r) := own_at (j := 2) hFc fcCells_len HYI.out rfl
                have f3 : (w9).cell? ⟨bF, i * 4 + 3, none⟩ = some (.slice B a e) := own_at (j := 3) hFc fcCells_len HYI.out rfl
                have hTc := hTc'
                have HSU9 := Lib.hid hsu9
                have HOK9 := Lib.hid hok9
                clear hTc' hg9 hsu9 hok9
                refine wpAnyH_ready (rs := [13]) (by kernel_rfl) (by simp) ?_
                refine AllReadyH.cons (i := 13) (by rfl) ?_ (AllReadyH.nil)
                intro K' hK
                simp only [List.getElem_toArray, List.getElem_cons_zero, List.getElem_cons_succ]
                refine if_yes (by kernel_rfl) ?_
                go_big_op
                refine hK.out _ _ ?_ (fun hHeld2 => ?_)
                · exact hHeld.alloc _
                clear hK K' hHeld
                have hHeld := hHeld2
                clear hHeld2
                (try simp only [List.getElem_toArray, List.getElem_cons_zero, List.getElem_cons_succ, Act.put, List.setIfInBounds_toArray, List.set_cons_zero, List.set_cons_succ])
                have hfr := Reads.freshAs w9 #[.int .i64 xo, .int .i64 xa, .int .i64 xb, .int .i64 xc, .int .u64 (U xk)] 55 5 1 [.int .i64 xo, .int .i64 xa, .int .i64 xb, .int .i64 xc, .int .u64 (U xk)] rfl rfl (by decide)
                have hba : Below w9.heap.size w9 (w9.alloc (.cells #[.int .i64 xo, .int .i64 xa, .int .i64 xb, .int .i64 xc, .int .u64 (U xk)] 55)) := keep_alloc (Below.refl _ _) _
                have hFc := own_keep hFc hba
                have hIc := own_keep hIc hba
                have hTc := hTc.below hba
                have b3w := Nat.le_trans b3w hba.size
                have f0 : (w9.alloc (.cells #[.int .i64 xo, .int .i64 xa, .int .i64 xb, .int .i64 xc, .int .u64 (U xk)] 55)).cell? ⟨bF, i * 4, none⟩ = some (.int .i64 p) := own_at (j := 0) hFc fcCells_len HYI.out rfl
                have f1 : (w9.alloc (.cells #[.int .i64 xo, .int .i64 xa, .int .i64 xb, .int .i64 xc, .int .u64 (U xk)] 55)).cell? ⟨bF, i * 4 + 1, none⟩ = some (.slice A n c) := own_at (j := 1) hFc fcCells_len HYI.out rfl
                have f2 : (w9.alloc (.cells #[.int .i64 xo, .int .i64 xa, .int .i64 xb, .int .i64 xc, .int .u64 (U xk)] 55)).cell? ⟨bF, i * 4 + 2, none⟩ = some (.int .i64 r) := own_at (j := 2) hFc fcCells_len HYI.out rfl
                have f3 : (w9.alloc (.cells #[.int .i64 xo, .int .i64 xa, .int .i64 xb, .int .i64 xc, .int .u64 (U xk)] 55)).cell? ⟨bF, i * 4 + 3, none⟩ = some (.slice B a e) := own_at (j := 3) hFc fcCells_len HYI.out rfl
                clear hba
                refine wpAnyH_ready (rs := [14]) (by kernel_rfl) (by simp) ?_
                refine AllReadyH.cons (i := 14) (by rfl) ?_ (AllReadyH.nil)
                intro K' hK
                refine step_appB rfl _ _ _ (by rfl) tyRInsM (by rfl) hIc (by rfl) hfr (by simp [Value.oneCell']) q1' q2' b3w ?_; intro v' w10 hown10 hg10 hbk10; obtain ⟨A10, c10, rfl, -⟩ := Reads.own hown10
                refine hK.out _ _ ?_ (fun hHeld2 => ?_)
                · exact hHeld.row hg10 (fun q hq _ => Or.inr (Or.inr (hIc.lt q hq).1))
                clear hK K' hHeld
                have hHeld := hHeld2
                clear hHeld2
                (try simp only [List.getElem_toArray, List.getElem_cons_zero, List.getElem_cons_succ, Act.put, List.setIfInBounds_toArray, List.set_cons_zero, List.set_cons_succ])
                have hF10 := own_other hFc hIc (by decide) hg10
                have f3 : w10.cell? ⟨bF, i * 4 + 3, none⟩ = some (.slice B a e) := own_at (j := 3) hF10 fcCells_len HYI.out rfl
                have ff := own_free hF10
                have hT10 := tape_row hTc hg10 (fun e => by have := (hIc.lt _ e).1; omega)
                refine wpAnyH_take (i := 15) (v := ?_) rfl (by kernel_rfl) (by kernel_rfl) (by kernel_rfl) (fun _ _ _ h => h) (Or.inl ⟨by rfl, ?_⟩) (by assumption) ?_
                rotate_left
                · intro wq hSw; clear hSw; go_simp; (try with_reducible rfl)
                (try simp only [List.getElem_toArray, List.getElem_cons_zero, List.getElem_cons_succ, Act.put, List.setIfInBounds_toArray, List.set_cons_zero, List.set_cons_succ])
                refine wpAnyH_take (i := 16) (v := ?_) rfl (by kernel_rfl) (by kernel_rfl) (by kernel_rfl) (fun _ _ _ h => h) (Or.inl ⟨by rfl, ?_⟩) (by assumption) ?_
                rotate_left
                · intro wq hSw; clear hSw; go_simp; (try with_reducible rfl)
                (try simp only [List.getElem_toArray, List.getElem_cons_zero, List.getElem_cons_succ, Act.put, List.setIfInBounds_toArray, List.set_cons_zero, List.set_cons_succ])
                refine wpAnyH_ready (rs := [17]) (by kernel_rfl) (by simp) ?_
                refine AllReadyH.cons (i := 17) (by rfl) ?_ (AllReadyH.nil)
                intro K' hK
                simp only [List.getElem_toArray, List.getElem_cons_zero, List.getElem_cons_succ]
                refine if_yes (by kernel_rfl) ?_
                go_big_op
                refine hK.out _ _ ?_ (fun hHeld2 => ?_)
                · exact hHeld.set (p := ⟨bF, i * 4 + 3, none⟩) (fun _ => Or.inr (Or.inl rfl)) _
                clear hK K' hHeld
                have hHeld := hHeld2
                clear hHeld2
                (try simp only [List.getElem_toArray, List.getElem_cons_zero, List.getElem_cons_succ, Act.put, List.setIfInBounds_toArray, List.set_cons_zero, List.set_cons_succ])
                refine wpAnyH_done (by kernel_rfl) ?_ _
                refine NoPanic.normal ?_
                have hFf := (hF10.stored (i * 4 + 3) (.slice A10 (a + 1) c10)).1
                rw [fcset HYI.out, List.set_set] at hFf
                have hIf := own_store hown10 hF10 (by decide) (i * 4 + 3) (.slice A10 (a + 1) c10)
                have hTf := hT10.setN (p := ⟨bF, i * 4 + 3, none⟩) (by show g < bF; omega) (.slice A10 (a + 1) c10)
                have hXf : OnlyX (fun i => i = g ∨ i = bF) w7 _ := hX8.more hHeld (fun q hq h => by have := HB3.out; rcases h with h | h | h; (· exact Or.inl h); (· exact Or.inr h); (· omega))
                have HXF := Lib.hid hXf
                clear f3 ff hF10 hT10 hHeld hown10 hfr hXf hIc hFc
                go_wp2_with fail
                go_roundw
                case rel =>
                  refine ⟨a + 1, A10, c10, xs ++ [⟨xo, xa, xb, xc, xk⟩], t9, by omega, by go_num, ?_, by simp [HXL.out], hFf, fun x hx => ?_, hTf, by omega, HXF.out⟩
                  · rw [List.flatMap_append]; exact hIf
                  · rcases List.mem_append.1 hx with hx | hx
                    · exact HXS.out x hx
                    · simp only [List.mem_singleton] at hx; subst hx; exact ⟨HSU9.out, HOK9.out⟩
                case measure => simp [intOf]; omega
              · skip
                intro K' hK
                simp only [List.getElem_toArray, List.getElem_cons_zero, List.getElem_cons_succ]
                refine if_yes (by kernel_rfl) ?_
                go_big_op
                refine hK.out _ _ ?_ (fun hHeld2 => ?_)
                · exact hHeld
                clear hK K' hHeld
                have hHeld := hHeld2
                clear hHeld2
                (try simp only [List.getElem_toArray, List.getElem_cons_zero, List.getElem_cons_succ, Act.put, List.setIfInBounds_toArray, List.set_cons_zero, List.set_cons_succ])
                refine wpAnyH_ready (rs := [4, 12]) (by kernel_rfl) (by simp) ?_
                refine AllReadyH.cons (i := 4) (by rfl) ?_ (AllReadyH.cons (i := 12) (by rfl) ?_ (AllReadyH.nil))
                · skip
                  intro K' hK
                  simp only [List.getElem_toArray, List.getElem_cons_zero, List.getElem_cons_succ]
                  refine if_yes (by kernel_rfl) ?_
                  go_big_op
                  refine hK.out _ _ ?_ (fun hHeld2 => ?_)
                  · exact hHeld
                  clear hK K' hHeld
                  have hHeld := hHeld2
                  clear hHeld2
                  (try simp only [List.getElem_toArray, List.getElem_cons_zero, List.getElem_cons_succ, Act.put, List.setIfInBounds_toArray, List.set_cons_zero, List.set_cons_succ])
                  refine wpAnyH_ready (rs := [12]) (by kernel_rfl) (by simp) ?_
                  refine AllReadyH.cons (i := 12) (by rfl) ?_ (AllReadyH.nil)
                  intro K' hK
                  simp only [List.getElem_toArray, List.getElem_cons_zero, List.getElem_cons_succ]
                  refine if_yes (by kernel_rfl) ?_
                  go_big_op
                  (go_at_call 56; refine HCALL.out.mono ?_; rintro e w9 ⟨⟨xo, xa, xb, xc, xk⟩, rfl, hsu9, hok9, t9, ht9, hTc', hg9⟩)
                  refine hK.out _ _ ?_ (fun hHeld2 => ?_)
                  · exact hHeld.trans ((HG1.out _ _ hg9).mono (fun q _ e => Or.inl e))
                  clear hK K' hHeld
                  have hHeld := hHeld2
                  clear hHeld2
                  (try simp only [List.getElem_toArray, List.getElem_cons_zero, List.getElem_cons_succ, Act.put, List.setIfInBounds_toArray, List.set_cons_zero, List.set_cons_succ])
                  have hFc := own_onlyX hFc (HG1.out _ _ hg9) (fun q hq e => by have hq' : bF = q := Option.some.inj hq; omega)
                  have hIc := own_onlyX hIc (HG1.out _ _ hg9) (fun q hq e => by have := (hIc.lt q hq).1; omega)
                  have b3w : b3 ≤ w9.heap.size := Nat.le_trans b3w hg9.size
                  have f0 : (w9).cell? ⟨bF, i * 4, none⟩ = some (.int .i64 p) := own_at (j := 0) hFc fcCells_len HYI.out rfl
                  have f1 : (w9).cell? ⟨bF, i * 4 + 1, none⟩ = some (.slice A n c) := own_at (j := 1) hFc fcCells_len HYI.out rfl
                  have f2 : (w9).cell? ⟨bF, i * 4 + 2, none⟩ = some (.int .i64 r) := own_at (j := 2) hFc fcCells_len HYI.out rfl
                  have f3 : (w9).cell? ⟨bF, i * 4 + 3, none⟩ = some (.slice B a e) := own_at (j := 3) hFc fcCells_len HYI.out rfl
                  have hTc := hTc'
                  have HSU9 := Lib.hid hsu9
                  have HOK9 := Lib.hid hok9
                  clear hTc' hg9 hsu9 hok9
                  refine wpAnyH_ready (rs := [13]) (by kernel_rfl) (by simp) ?_
                  refine AllReadyH.cons (i := 13) (by rfl) ?_ (AllReadyH.nil)
                  intro K' hK
                  simp only [List.getElem_toArray, List.getElem_cons_zero, List.getElem_cons_succ]
                  refine if_yes (by kernel_rfl) ?_
                  go_big_op
                  refine hK.out _ _ ?_ (fun hHeld2 => ?_)
                  · exact hHeld.alloc _
                  clear hK K' hHeld
                  have hHeld := hHeld2
                  clear hHeld2
                  (try simp only [List.getElem_toArray, List.getElem_cons_zero, List.getElem_cons_succ, Act.put, List.setIfInBounds_toArray, List.set_cons_zero, List.set_cons_succ])
                  have hfr := Reads.freshAs w9 #[.int .i64 xo, .int .i64 xa, .int .i64 xb, .int .i64 xc, .int .u64 (U xk)] 55 5 1 [.int .i64 xo, .int .i64 xa, .int .i64 xb, .int .i64 xc, .int .u64 (U xk)] rfl rfl (by decide)
                  have hba : Below w9.heap.size w9 (w9.alloc (.cells #[.int .i64 xo, .int .i64 xa, .int .i64 xb, .int .i64 xc, .int .u64 (U xk)] 55)) := keep_alloc (Below.refl _ _) _
                  have hFc := own_keep hFc hba
                  have hIc := own_keep hIc hba
                  have hTc := hTc.below hba
                  have b3w := Nat.le_trans b3w hba.size
                  have f0 : (w9.alloc (.cells #[.int .i64 xo, .int .i64 xa, .int .i64 xb, .int .i64 xc, .int .u64 (U xk)] 55)).cell? ⟨bF, i * 4, none⟩ = some (.int .i64 p) := own_at (j := 0) hFc fcCells_len HYI.out rfl
                  have f1 : (w9.alloc (.cells #[.int .i64 xo, .int .i64 xa, .int .i64 xb, .int .i64 xc, .int .u64 (U xk)] 55)).cell? ⟨bF, i * 4 + 1, none⟩ = some (.slice A n c) := own_at (j := 1) hFc fcCells_len HYI.out rfl
                  have f2 : (w9.alloc (.cells #[.int .i64 xo, .int .i64 xa, .int .i64 xb, .int .i64 xc, .int .u64 (U xk)] 55)).cell? ⟨bF, i * 4 + 2, none⟩ = some (.int .i64 r) := own_at (j := 2) hFc fcCells_len HYI.out rfl
                  have f3 : (w9.alloc (.cells #[.int .i64 xo, .int .i64 xa, .int .i64 xb, .int .i64 xc, .int .u64 (U xk)] 55)).cell? ⟨bF, i * 4 + 3, none⟩ = some (.slice B a e) := own_at (j := 3) hFc fcCells_len HYI.out rfl
                  clear hba
                  refine wpAnyH_ready (rs := [14]) (by kernel_rfl) (by simp) ?_
                  refine AllReadyH.cons (i := 14) (by rfl) ?_ (AllReadyH.nil)
                  intro K' hK
                  refine step_appB rfl _ _ _ (by rfl) tyRInsM (by rfl) hIc (by rfl) hfr (by simp [Value.oneCell']) q1' q2' b3w ?_; intro v' w10 hown10 hg10 hbk10; obtain ⟨A10, c10, rfl, -⟩ := Reads.own hown10
                  refine hK.out _ _ ?_ (fun hHeld2 => ?_)
                  · exact hHeld.row hg10 (fun q hq _ => Or.inr (Or.inr (hIc.lt q hq).1))
                  clear hK K' hHeld
                  have hHeld := hHeld2
                  clear hHeld2
                  (try simp only [List.getElem_toArray, List.getElem_cons_zero, List.getElem_cons_succ, Act.put, List.setIfInBounds_toArray, List.set_cons_zero, List.set_cons_succ])
                  have hF10 := own_other hFc hIc (by decide) hg10
                  have f3 : w10.cell? ⟨bF, i * 4 + 3, none⟩ = some (.slice B a e) := own_at (j := 3) hF10 fcCells_len HYI.out rfl
                  have ff := own_free hF10
                  have hT10 := tape_row hTc hg10 (fun e => by have := (hIc.lt _ e).1; omega)
                  refine wpAnyH_take (i := 15) (v := ?_) rfl (by kernel_rfl) (by kernel_rfl) (by kernel_rfl) (fun _ _ _ h => h) (Or.inl ⟨by rfl, ?_⟩) (by assumption) ?_
                  rotate_left
                  · intro wq hSw; clear hSw; go_simp; (try with_reducible rfl)
                  (try simp only [List.getElem_toArray, List.getElem_cons_zero, List.getElem_cons_succ, Act.put, List.setIfInBounds_toArray, List.set_cons_zero, List.set_cons_succ])
                  refine wpAnyH_take (i := 16) (v := ?_) rfl (by kernel_rfl) (by kernel_rfl) (by kernel_rfl) (fun _ _ _ h => h) (Or.inl ⟨by rfl, ?_⟩) (by assumption) ?_
                  rotate_left
                  · intro wq hSw; clear hSw; go_simp; (try with_reducible rfl)
                  (try simp only [List.getElem_toArray, List.getElem_cons_zero, List.getElem_cons_succ, Act.put, List.setIfInBounds_toArray, List.set_cons_zero, List.set_cons_succ])
                  refine wpAnyH_ready (rs := [17]) (by kernel_rfl) (by simp) ?_
                  refine AllReadyH.cons (i := 17) (by rfl) ?_ (AllReadyH.nil)
                  intro K' hK
                  simp only [List.getElem_toArray, List.getElem_cons_zero, List.getElem_cons_succ]
                  refine if_yes (by kernel_rfl) ?_
                  go_big_op
                  refine hK.out _ _ ?_ (fun hHeld2 => ?_)
                  · exact hHeld.set (p := ⟨bF, i * 4 + 3, none⟩) (fun _ => Or.inr (Or.inl rfl)) _
                  clear hK K' hHeld
                  have hHeld := hHeld2
                  clear hHeld2
                  (try simp only [List.getElem_toArray, List.getElem_cons_zero, List.getElem_cons_succ, Act.put, List.setIfInBounds_toArray, List.set_cons_zero, List.set_cons_succ])
                  refine wpAnyH_done (by kernel_rfl) ?_ _
                  refine NoPanic.normal ?_
                  have hFf := (hF10.stored (i * 4 + 3) (.slice A10 (a + 1) c10)).1
                  rw [fcset HYI.out, List.set_set] at hFf
                  have hIf := own_store hown10 hF10 (by decide) (i * 4 + 3) (.slice A10 (a + 1) c10)
                  have hTf := hT10.setN (p := ⟨bF, i * 4 + 3, none⟩) (by show g < bF; omega) (.slice A10 (a + 1) c10)
                  have hXf : OnlyX (fun i => i = g ∨ i = bF) w7 _ := hX8.more hHeld (fun q hq h => by have := HB3.out; rcases h with h | h | h; (· exact Or.inl h); (· exact Or.inr h); (· omega))
                  have HXF := Lib.hid hXf
                  clear f3 ff hF10 hT10 hHeld hown10 hfr hXf hIc hFc
                  go_wp2_with fail
                  go_roundw
                  case rel =>
                    refine ⟨a + 1, A10, c10, xs ++ [⟨xo, xa, xb, xc, xk⟩], t9, by omega, by go_num, ?_, by simp [HXL.out], hFf, fun x hx => ?_, hTf, by omega, HXF.out⟩
                    · rw [List.flatMap_append]; exact hIf
                    · rcases List.mem_append.1 hx with hx | hx
                      · exact HXS.out x hx
                      · simp only [List.mem_singleton] at hx; subst hx; exact ⟨HSU9.out, HOK9.out⟩
                  case measure => simp [intOf]; omega
                · skip
                  intro K' hK
                  simp only [List.getElem_toArray, List.getElem_cons_zero, List.getElem_cons_succ]
                  refine if_yes (by kernel_rfl) ?_
                  go_big_op
                  (go_at_call 56; refine HCALL.out.mono ?_; rintro e w9 ⟨⟨xo, xa, xb, xc, xk⟩, rfl, hsu9, hok9, t9, ht9, hTc', hg9⟩)
                  refine hK.out _ _ ?_ (fun hHeld2 => ?_)
                  · exact hHeld.trans ((HG1.out _ _ hg9).mono (fun q _ e => Or.inl e))
                  clear hK K' hHeld
                  have hHeld := hHeld2
                  clear hHeld2
                  (try simp only [List.getElem_toArray, List.getElem_cons_zero, List.getElem_cons_succ, Act.put, List.setIfInBounds_toArray, List.set_cons_zero, List.set_cons_succ])
                  have hFc := own_onlyX hFc (HG1.out _ _ hg9) (fun q hq e => by have hq' : bF = q := Option.some.inj hq; omega)
                  have hIc := own_onlyX hIc (HG1.out _ _ hg9) (fun q hq e => by have := (hIc.lt q hq).1; omega)
                  have b3w : b3 ≤ w9.heap.size := Nat.le_trans b3w hg9.size
                  have f0 : (w9).cell? ⟨bF, i * 4, none⟩ = some (.int .i64 p) := own_at (j := 0) hFc fcCells_len HYI.out rfl
                  have f1 : (w9).cell? ⟨bF, i * 4 + 1, none⟩ = some (.slice A n c) := own_at (j := 1) hFc fcCells_len HYI.out rfl
                  have f2 : (w9).cell? ⟨bF, i * 4 + 2, none⟩ = some (.int .i64 r) := own_at (j := 2) hFc fcCells_len HYI.out rfl
                  have f3 : (w9).cell? ⟨bF, i * 4 + 3, none⟩ = some (.slice B a e) := own_at (j := 3) hFc fcCells_len HYI.out rfl
                  have hTc := hTc'
                  have HSU9 := Lib.hid hsu9
                  have HOK9 := Lib.hid hok9
                  clear hTc' hg9 hsu9 hok9
                  refine wpAnyH_ready (rs := [4, 13]) (by kernel_rfl) (by simp) ?_
                  refine AllReadyH.cons (i := 4) (by rfl) ?_ (AllReadyH.cons (i := 13) (by rfl) ?_ (AllReadyH.nil))
                  · skip
                    intro K' hK
                    simp only [List.getElem_toArray, List.getElem_cons_zero, List.getElem_cons_succ]
                    refine if_yes (by kernel_rfl) ?_
                    go_big_op
                    refine hK.out _ _ ?_ (fun hHeld2 => ?_)
                    · exact hHeld
                    clear hK K' hHeld
                    have hHeld := hHeld2
                    clear hHeld2
                    (try simp only [List.getElem_toArray, List.getElem_cons_zero, List.getElem_cons_succ, Act.put, List.setIfInBounds_toArray, List.set_cons_zero, List.set_cons_succ])
                    refine wpAnyH_ready (rs := [13]) (by kernel_rfl) (by simp) ?_
                    refine AllReadyH.cons (i := 13) (by rfl) ?_ (AllReadyH.nil)
                    intro K' hK
                    simp only [List.getElem_toArray, List.getElem_cons_zero, List.getElem_cons_succ]
                    refine if_yes (by kernel_rfl) ?_
                    go_big_op
                    refine hK.out _ _ ?_ (fun hHeld2 => ?_)
                    · exact hHeld.alloc _
                    clear hK K' hHeld
                    have hHeld := hHeld2
                    clear hHeld2
                    (try simp only [List.getElem_toArray, List.getElem_cons_zero, List.getElem_cons_succ, Act.put, List.setIfInBounds_toArray, List.set_cons_zero, List.set_cons_succ])
                    have hfr := Reads.freshAs w9 #[.int .i64 xo, .int .i64 xa, .int .i64 xb, .int .i64 xc, .int .u64 (U xk)] 55 5 1 [.int .i64 xo, .int .i64 xa, .int .i64 xb, .int .i64 xc, .int .u64 (U xk)] rfl rfl (by decide)
                    have hba : Below w9.heap.size w9 (w9.alloc (.cells #[.int .i64 xo, .int .i64 xa, .int .i64 xb, .int .i64 xc, .int .u64 (U xk)] 55)) := keep_alloc (Below.refl _ _) _
                    have hFc := own_keep hFc hba
                    have hIc := own_keep hIc hba
                    have hTc := hTc.below hba
                    have b3w := Nat.le_trans b3w hba.size
                    have f0 : (w9.alloc (.cells #[.int .i64 xo, .int .i64 xa, .int .i64 xb, .int .i64 xc, .int .u64 (U xk)] 55)).cell? ⟨bF, i * 4, none⟩ = some (.int .i64 p) := own_at (j := 0) hFc fcCells_len HYI.out rfl
                    have f1 : (w9.alloc (.cells #[.int .i64 xo, .int .i64 xa, .int .i64 xb, .int .i64 xc, .int .u64 (U xk)] 55)).cell? ⟨bF, i * 4 + 1, none⟩ = some (.slice A n c) := own_at (j := 1) hFc fcCells_len HYI.out rfl
                    have f2 : (w9.alloc (.cells #[.int .i64 xo, .int .i64 xa, .int .i64 xb, .int .i64 xc, .int .u64 (U xk)] 55)).cell? ⟨bF, i * 4 + 2, none⟩ = some (.int .i64 r) := own_at (j := 2) hFc fcCells_len HYI.out rfl
                    have f3 : (w9.alloc (.cells #[.int .i64 xo, .int .i64 xa, .int .i64 xb, .int .i64 xc, .int .u64 (U xk)] 55)).cell? ⟨bF, i * 4 + 3, none⟩ = some (.slice B a e) := own_at (j := 3) hFc fcCells_len HYI.out rfl
                    clear hba
                    refine wpAnyH_ready (rs := [14]) (by kernel_rfl) (by simp) ?_
                    refine AllReadyH.cons (i := 14) (by rfl) ?_ (AllReadyH.nil)
                    intro K' hK
                    refine step_appB rfl _ _ _ (by rfl) tyRInsM (by rfl) hIc (by rfl) hfr (by simp [Value.oneCell']) q1' q2' b3w ?_; intro v' w10 hown10 hg10 hbk10; obtain ⟨A10, c10, rfl, -⟩ := Reads.own hown10
                    refine hK.out _ _ ?_ (fun hHeld2 => ?_)
                    · exact hHeld.row hg10 (fun q hq _ => Or.inr (Or.inr (hIc.lt q hq).1))
                    clear hK K' hHeld
                    have hHeld := hHeld2
                    clear hHeld2
                    (try simp only [List.getElem_toArray, List.getElem_cons_zero, List.getElem_cons_succ, Act.put, List.setIfInBounds_toArray, List.set_cons_zero, List.set_cons_succ])
                    have hF10 := own_other hFc hIc (by decide) hg10
                    have f3 : w10.cell? ⟨bF, i * 4 + 3, none⟩ = some (.slice B a e) := own_at (j := 3) hF10 fcCells_len HYI.out rfl
                    have ff := own_free hF10
                    have hT10 := tape_row hTc hg10 (fun e => by have := (hIc.lt _ e).1; omega)
                    refine wpAnyH_take (i := 15) (v := ?_) rfl (by kernel_rfl) (by kernel_rfl) (by kernel_rfl) (fun _ _ _ h => h) (Or.inl ⟨by rfl, ?_⟩) (by assumption) ?_
                    rotate_left
                    · intro wq hSw; clear hSw; go_simp; (try with_reducible rfl)
                    (try simp only [List.getElem_toArray, List.getElem_cons_zero, List.getElem_cons_succ, Act.put, List.setIfInBounds_toArray, List.set_cons_zero, List.set_cons_succ])
                    refine wpAnyH_take (i := 16) (v := ?_) rfl (by kernel_rfl) (by kernel_rfl) (by kernel_rfl) (fun _ _ _ h => h) (Or.inl ⟨by rfl, ?_⟩) (by assumption) ?_
                    rotate_left
                    · intro wq hSw; clear hSw; go_simp; (try with_reducible rfl)
                    (try simp only [List.getElem_toArray, List.getElem_cons_zero, List.getElem_cons_succ, Act.put, List.setIfInBounds_toArray, List.set_cons_zero, List.set_cons_succ])
                    refine wpAnyH_ready (rs := [17]) (by kernel_rfl) (by simp) ?_
                    refine AllReadyH.cons (i := 17) (by rfl) ?_ (AllReadyH.nil)
                    intro K' hK
                    simp only [List.getElem_toArray, List.getElem_cons_zero, List.getElem_cons_succ]
                    refine if_yes (by kernel_rfl) ?_
                    go_big_op
                    refine hK.out _ _ ?_ (fun hHeld2 => ?_)
                    · exact hHeld.set (p := ⟨bF, i * 4 + 3, none⟩) (fun _ => Or.inr (Or.inl rfl)) _
                    clear hK K' hHeld
                    have hHeld := hHeld2
                    clear hHeld2
                    (try simp only [List.getElem_toArray, List.getElem_cons_zero, List.getElem_cons_succ, Act.put, List.setIfInBounds_toArray, List.set_cons_zero, List.set_cons_succ])
                    refine wpAnyH_done (by kernel_rfl) ?_ _
                    refine NoPanic.normal ?_
                    have hFf := (hF10.stored (i * 4 + 3) (.slice A10 (a + 1) c10)).1
                    rw [fcset HYI.out, List.set_set] at hFf
                    have hIf := own_store hown10 hF10 (by decide) (i * 4 + 3) (.slice A10 (a + 1) c10)
                    have hTf := hT10.setN (p := ⟨bF, i * 4 + 3, none⟩) (by show g < bF; omega) (.slice A10 (a + 1) c10)
                    have hXf : OnlyX (fun i => i = g ∨ i = bF) w7 _ := hX8.more hHeld (fun q hq h => by have := HB3.out; rcases h with h | h | h; (· exact Or.inl h); (· exact Or.inr h); (· omega))
                    have HXF := Lib.hid hXf
                    clear f3 ff hF10 hT10 hHeld hown10 hfr hXf hIc hFc
                    go_wp2_with fail
                    go_roundw
                    case rel =>
                      refine ⟨a + 1, A10, c10, xs ++ [⟨xo, xa, xb, xc, xk⟩], t9, by omega, by go_num, ?_, by simp [HXL.out], hFf, fun x hx => ?_, hTf, by omega, HXF.out⟩
                      · rw [List.flatMap_append]; exact hIf
                      · rcases List.mem_append.1 hx with hx | hx
                        · exact HXS.out x hx
                        · simp only [List.mem_singleton] at hx; subst hx; exact ⟨HSU9.out, HOK9.out⟩
                    case measure => simp [intOf]; omega
                  · skip
                    intro K' hK
                    simp only [List.getElem_toArray, List.getElem_cons_zero, List.getElem_cons_succ]
                    refine if_yes (by kernel_rfl) ?_
                    go_big_op
                    refine hK.out _ _ ?_ (fun hHeld2 => ?_)
                    · exact hHeld.alloc _
                    clear hK K' hHeld
                    have hHeld := hHeld2
                    clear hHeld2
                    (try simp only [List.getElem_toArray, List.getElem_cons_zero, List.getElem_cons_succ, Act.put, List.setIfInBounds_toArray, List.set_cons_zero, List.set_cons_succ])
                    have hfr := Reads.freshAs w9 #[.int .i64 xo, .int .i64 xa, .int .i64 xb, .int .i64 xc, .int .u64 (U xk)] 55 5 1 [.int .i64 xo, .int .i64 xa, .int .i64 xb, .int .i64 xc, .int .u64 (U xk)] rfl rfl (by decide)
                    have hba : Below w9.heap.size w9 (w9.alloc (.cells #[.int .i64 xo, .int .i64 xa, .int .i64 xb, .int .i64 xc, .int .u64 (U xk)] 55)) := keep_alloc (Below.refl _ _) _
                    have hFc := own_keep hFc hba
                    have hIc := own_keep hIc hba
                    have hTc := hTc.below hba
                    have b3w := Nat.le_trans b3w hba.size
                    have f0 : (w9.alloc (.cells #[.int .i64 xo, .int .i64 xa, .int .i64 xb, .int .i64 xc, .int .u64 (U xk)] 55)).cell? ⟨bF, i * 4, none⟩ = some (.int .i64 p) := own_at (j := 0) hFc fcCells_len HYI.out rfl
                    have f1 : (w9.alloc (.cells #[.int .i64 xo, .int .i64 xa, .int .i64 xb, .int .i64 xc, .int .u64 (U xk)] 55)).cell? ⟨bF, i * 4 + 1, none⟩ = some (.slice A n c) := own_at (j := 1) hFc fcCells_len HYI.out rfl
                    have f2 : (w9.alloc (.cells #[.int .i64 xo, .int .i64 xa, .int .i64 xb, .int .i64 xc, .int .u64 (U xk)] 55)).cell? ⟨bF, i * 4 + 2, none⟩ = some (.int .i64 r) := own_at (j := 2) hFc fcCells_len HYI.out rfl
                    have f3 : (w9.alloc (.cells #[.int .i64 xo, .int .i64 xa, .int .i64 xb, .int .i64 xc, .int .u64 (U xk)] 55)).cell? ⟨bF, i * 4 + 3, none⟩ = some (.slice B a e) := own_at (j := 3) hFc fcCells_len HYI.out rfl
                    clear hba
                    refine wpAnyH_ready (rs := [4]) (by kernel_rfl) (by simp) ?_
                    refine AllReadyH.cons (i := 4) (by rfl) ?_ (AllReadyH.nil)
                    intro K' hK
                    simp only [List.getElem_toArray, List.getElem_cons_zero, List.getElem_cons_succ]
                    refine if_yes (by kernel_rfl) ?_
                    go_big_op
                    refine hK.out _ _ ?_ (fun hHeld2 => ?_)
                    · exact hHeld
                    clear hK K' hHeld
                    have hHeld := hHeld2
                    clear hHeld2
                    (try simp only [List.getElem_toArray, List.getElem_cons_zero, List.getElem_cons_succ, Act.put, List.setIfInBounds_toArray, List.set_cons_zero, List.set_cons_succ])
                    refine wpAnyH_ready (rs := [14]) (by kernel_rfl) (by simp) ?_
                    refine AllReadyH.cons (i := 14) (by rfl) ?_ (AllReadyH.nil)
                    intro K' hK
                    refine step_appB rfl _ _ _ (by rfl) tyRInsM (by rfl) hIc (by rfl) hfr (by simp [Value.oneCell']) q1' q2' b3w ?_; intro v' w10 hown10 hg10 hbk10; obtain ⟨A10, c10, rfl, -⟩ := Reads.own hown10
                    refine hK.out _ _ ?_ (fun hHeld2 => ?_)
                    · exact hHeld.row hg10 (fun q hq _ => Or.inr (Or.inr (hIc.lt q hq).1))
                    clear hK K' hHeld
                    have hHeld := hHeld2
                    clear hHeld2
                    (try simp only [List.getElem_toArray, List.getElem_cons_zero, List.getElem_cons_succ, Act.put, List.setIfInBounds_toArray, List.set_cons_zero, List.set_cons_succ])
                    have hF10 := own_other hFc hIc (by decide) hg10
                    have f3 : w10.cell? ⟨bF, i * 4 + 3, none⟩ = some (.slice B a e) := own_at (j := 3) hF10 fcCells_len HYI.out rfl
                    have ff := own_free hF10
                    have hT10 := tape_row hTc hg10 (fun e => by have := (hIc.lt _ e).1; omega)
                    refine wpAnyH_take (i := 15) (v := ?_) rfl (by kernel_rfl) (by kernel_rfl) (by kernel_rfl) (fun _ _ _ h => h) (Or.inl ⟨by rfl, ?_⟩) (by assumption) ?_
                    rotate_left
                    · intro wq hSw; clear hSw; go_simp; (try with_reducible rfl)
                    (try simp only [List.getElem_toArray, List.getElem_cons_zero, List.getElem_cons_succ, Act.put, List.setIfInBounds_toArray, List.set_cons_zero, List.set_cons_succ])
                    refine wpAnyH_take (i := 16) (v := ?_) rfl (by kernel_rfl) (by kernel_rfl) (by kernel_rfl) (fun _ _ _ h => h) (Or.inl ⟨by rfl, ?_⟩) (by assumption) ?_
                    rotate_left
                    · intro wq hSw; clear hSw; go_simp; (try with_reducible rfl)
                    (try simp only [List.getElem_toArray, List.getElem_cons_zero, List.getElem_cons_succ, Act.put, List.setIfInBounds_toArray, List.set_cons_zero, List.set_cons_succ])
                    refine wpAnyH_ready (rs := [17]) (by kernel_rfl) (by simp) ?_
                    refine AllReadyH.cons (i := 17) (by rfl) ?_ (AllReadyH.nil)
                    intro K' hK
                    simp only [List.getElem_toArray, List.getElem_cons_zero, List.getElem_cons_succ]
                    refine if_yes (by kernel_rfl) ?_
                    go_big_op
                    refine hK.out _ _ ?_ (fun hHeld2 => ?_)
                    · exact hHeld.set (p := ⟨bF, i * 4 + 3, none⟩) (fun _ => Or.inr (Or.inl rfl)) _
                    clear hK K' hHeld
                    have hHeld := hHeld2
                    clear hHeld2
                    (try simp only [List.getElem_toArray, List.getElem_cons_zero, List.getElem_cons_succ, Act.put, List.setIfInBounds_toArray, List.set_cons_zero, List.set_cons_succ])
                    refine wpAnyH_done (by kernel_rfl) ?_ _
                    refine NoPanic.normal ?_
                    have hFf := (hF10.stored (i * 4 + 3) (.slice A10 (a + 1) c10)).1
                    rw [fcset HYI.out, List.set_set] at hFf
                    have hIf := own_store hown10 hF10 (by decide) (i * 4 + 3) (.slice A10 (a + 1) c10)
                    have hTf := hT10.setN (p := ⟨bF, i * 4 + 3, none⟩) (by show g < bF; omega) (.slice A10 (a + 1) c10)
                    have hXf : OnlyX (fun i => i = g ∨ i = bF) w7 _ := hX8.more hHeld (fun q hq h => by have := HB3.out; rcases h with h | h | h; (· exact Or.inl h); (· exact Or.inr h); (· omega))
                    have HXF := Lib.hid hXf
                    clear f3 ff hF10 hT10 hHeld hown10 hfr hXf hIc hFc
                    go_wp2_with fail
                    go_roundw
                    case rel =>
                      refine ⟨a + 1, A10, c10, xs ++ [⟨xo, xa, xb, xc, xk⟩], t9, by omega, by go_num, ?_, by simp [HXL.out], hFf, fun x hx => ?_, hTf, by omega, HXF.out⟩
                      · rw [List.flatMap_append]; exact hIf
                      · rcases List.mem_append.1 hx with hx | hx
                        · exact HXS.out x hx
                        · simp only [List.mem_singleton] at hx; subst hx; exact ⟨HSU9.out, HOK9.out⟩
                    case measure => simp [intOf]; omega
            · have hac2 : a = cnt := by omega
              subst hac2
              have hd3 : decide ((a : Int) < (a : Int)) = false := by simp
              have hd4 : decide (a < a) = false := by simp
              have q1' : a + 1 ≤ maxLen := by unfold maxLen; omega
              have q2' : (a + 1) * 40 ≤ 140737488355328 := by omega
              have HCALL := Lib.hid (pick_any g t8 p A n c r B a e gl r (World.drew w8) hTc (by omega) hAd hFA (by omega) (by omega) (HHO.out.has HHO.out.r12))
              clear hMd hAd hFA hac
              go_upto_region 16 with fail
              refine wp_region_noPanic ?_
              refine wp_region_held_drew (S := fun u => OnlyX (fun q => q = g ∨ q = bF ∨ b3 ≤ q) w8 u ∧ u.cell? ⟨bF, i * 4 + 2, none⟩ = some (.int .i64 r)) (by kernel_rfl) (⟨OnlyX.refl.drew, f2⟩) (fun hHeld => ?_)
              refine wpAnyH_take (i := 0) (v := ?_) rfl (by kernel_rfl) (by kernel_rfl) (by kernel_rfl) (fun _ _ _ h => h) (Or.inl ⟨by rfl, ?_⟩) (by assumption) ?_
              rotate_left
              · intro wq hSw; clear hSw; go_simp; (try with_reducible rfl)
              (try simp only [List.getElem_toArray, List.getElem_cons_zero, List.getElem_cons_succ, Act.put, List.setIfInBounds_toArray, List.set_cons_zero, List.set_cons_succ])
              refine wpAnyH_take (i := 1) (v := ?_) rfl (by kernel_rfl) (by kernel_rfl) (by kernel_rfl) (fun _ _ _ h => h) (Or.inl ⟨by rfl, ?_⟩) (by assumption) ?_
              rotate_left
              · intro wq hSw; clear hSw; go_simp; (try with_reducible rfl)
              (try simp only [List.getElem_toArray, List.getElem_cons_zero, List.getElem_cons_succ, Act.put, List.setIfInBounds_toArray, List.set_cons_zero, List.set_cons_succ])
              refine wpAnyH_take (i := 2) (v := ?_) rfl (by kernel_rfl) (by kernel_rfl) (by kernel_rfl) (fun _ _ _ h => h) (Or.inl ⟨by rfl, ?_⟩) (by assumption) ?_
              rotate_left
              · intro wq hSw; clear hSw; go_simp; (try with_reducible rfl)
              (try simp only [List.getElem_toArray, List.getElem_cons_zero, List.getElem_cons_succ, Act.put, List.setIfInBounds_toArray, List.set_cons_zero, List.set_cons_succ])
              refine wpAnyH_take (i := 3) (v := ?_) rfl (by kernel_rfl) (by kernel_rfl) (by kernel_rfl) (fun _ _ _ h => h) (Or.inl ⟨by rfl, ?_⟩) (by assumption) ?_
              rotate_left
              · intro wq hSw; clear hSw; go_simp; (try with_reducible rfl)
              (try simp only [List.getElem_toArray, List.getElem_cons_zero, List.getElem_cons_succ, Act.put, List.setIfInBounds_toArray, List.set_cons_zero, List.set_cons_succ])
              refine wpAnyH_take (i := 5) (v := ?_) rfl (by kernel_rfl) (by kernel_rfl) (by kernel_rfl) (fun _ _ _ h => h) (Or.inl ⟨by rfl, ?_⟩) (by assumption) ?_
              rotate_left
              · intro wq hSw; clear hSw; go_simp; (try with_reducible rfl)
              (try simp only [List.getElem_toArray, List.getElem_cons_zero, List.getElem_cons_succ, Act.put, List.setIfInBounds_toArray, List.set_cons_zero, List.set_cons_succ])
              refine wpAnyH_take (i := 6) (v := ?_) rfl (by kernel_rfl) (by kernel_rfl) (by kernel_rfl) (fun _ _ _ h => h) (Or.inl ⟨by rfl, ?_⟩) (by assumption) ?_
              rotate_left
              · intro wq hSw; clear hSw; go_simp; (try with_reducible rfl)
              (try simp only [List.getElem_toArray, List.getElem_cons_zero, List.getElem_cons_succ, Act.put, List.setIfInBounds_toArray, List.set_cons_zero, List.set_cons_succ])
              refine wpAnyH_take (i := 7) (v := ?_) rfl (by kernel_rfl) (by kernel_rfl) (by kernel_rfl) (fun _ _ _ h => h) (Or.inl ⟨by rfl, ?_⟩) (by assumption) ?_
              rotate_left
              · intro wq hSw; clear hSw; go_simp; (try with_reducible rfl)
              (try simp only [List.getElem_toArray, List.getElem_cons_zero, List.getElem_cons_succ, Act.put, List.setIfInBounds_toArray, List.set_cons_zero, List.set_cons_succ])
              refine wpAnyH_take (i := 9) (v := ?_) rfl (by kernel_rfl) (by kernel_rfl) (by kernel_rfl) (fun _ _ _ h => h) (Or.inl ⟨by rfl, ?_⟩) (by assumption) ?_
              rotate_left
              · intro wq hSw; clear hSw; go_simp; (try with_reducible rfl)
              (try simp only [List.getElem_toArray, List.getElem_cons_zero, List.getElem_cons_succ, Act.put, List.setIfInBounds_toArray, List.set_cons_zero, List.set_cons_succ])
              refine wpAnyH_take (i := 10) (v := ?_) rfl (by kernel_rfl) (by kernel_rfl) (by kernel_rfl) (fun _ _ _ h => h) (Or.inl ⟨by rfl, ?_⟩) (by assumption) ?_
              rotate_left
              · intro wq hSw; clear hSw; go_simp; (try with_reducible rfl)
              (try simp only [List.getElem_toArray, List.getElem_cons_zero, List.getElem_cons_succ, Act.put, List.setIfInBounds_toArray, List.set_cons_zero, List.set_cons_succ])
              refine wpAnyH_take (i := 11) (v := ?_) rfl (by kernel_rfl) (by kernel_rfl) (by kernel_rfl) (fun _ _ _ h => h) (Or.inl ⟨by rfl, ?_⟩) (by assumption) ?_
              rotate_left
              · intro wq hSw; clear hSw; go_simp; (try with_reducible rfl)
              (try simp only [List.getElem_toArray, List.getElem_cons_zero, List.getElem_cons_succ, Act.put, List.setIfInBounds_toArray, List.set_cons_zero, List.set_cons_succ])
              refine wpAnyH_take (i := 12) (v := ?_) rfl (by kernel_rfl) (by kernel_rfl) (by kernel_rfl) (fun _ _ _ h => h) (Or.inl ⟨by rfl, ?_⟩) (by assumption) ?_
              rotate_left
              · intro wq hSw; have z2 := hSw.2; clear hSw; go_simp; (try with_reducible rfl)
              (try simp only [List.getElem_toArray, List.getElem_cons_zero, List.getElem_cons_succ, Act.put, List.setIfInBounds_toArray, List.set_cons_zero, List.set_cons_succ])
              refine wpAnyH_ready (rs := [4, 8]) (by kernel_rfl) (by simp) ?_
              refine AllReadyH.cons (i := 4) (by rfl) ?_ (AllReadyH.cons (i := 8) (by rfl) ?_ (AllReadyH.nil))
              · skip
                intro K' hK
                simp only [List.getElem_toArray, List.getElem_cons_zero, List.getElem_cons_succ]
                refine if_yes (by kernel_rfl) ?_
                go_big_op
                refine hK.out _ _ ?_ (fun hHeld2 => ?_)
                · exact hHeld
                clear hK K' hHeld
                have hHeld := hHeld2
                clear hHeld2
                (try simp only [List.getElem_toArray, List.getElem_cons_zero, List.getElem_cons_succ, Act.put, List.setIfInBounds_toArray, List.set_cons_zero, List.set_cons_succ])
                refine wpAnyH_ready (rs := [8]) (by kernel_rfl) (by simp) ?_
                refine AllReadyH.cons (i := 8) (by rfl) ?_ (AllReadyH.nil)
                intro K' hK
                simp only [List.getElem_toArray, List.getElem_cons_zero, List.getElem_cons_succ]
                refine if_yes (by kernel_rfl) ?_
                go_big_op
                refine hK.out _ _ ?_ (fun hHeld2 => ?_)
                · exact hHeld
                clear hK K' hHeld
                have hHeld := hHeld2
                clear hHeld2
                (try simp only [List.getElem_toArray, List.getElem_cons_zero, List.getElem_cons_succ, Act.put, List.setIfInBounds_toArray, List.set_cons_zero, List.set_cons_succ])
                refine wpAnyH_ready (rs := [13]) (by kernel_rfl) (by simp) ?_
                refine AllReadyH.cons (i := 13) (by rfl) ?_ (AllReadyH.nil)
                intro K' hK
                simp only [List.getElem_toArray, List.getElem_cons_zero, List.getElem_cons_succ]
                refine if_yes (by kernel_rfl) ?_
                go_big_op
                (go_at_call 57; refine HCALL.out.mono ?_; rintro e w9 ⟨ix, rfl, hix, t9, ht9, hTc', hg9⟩)
                refine hK.out _ _ ?_ (fun hHeld2 => ?_)
                · exact ⟨hHeld.1.trans ((HG1.out _ _ hg9).mono (fun q _ e => Or.inl e)), own_at (j := 2) (own_onlyX hFc (HG1.out _ _ hg9) (fun q hq e => by have hq' : bF = q := Option.some.inj hq; omega)) fcCells_len HYI.out rfl⟩
                clear hK K' hHeld
                have hHeld := hHeld2
                clear hHeld2
                (try simp only [List.getElem_toArray, List.getElem_cons_zero, List.getElem_cons_succ, Act.put, List.setIfInBounds_toArray, List.set_cons_zero, List.set_cons_succ])
                have hFc := own_onlyX hFc (HG1.out _ _ hg9) (fun q hq e => by have hq' : bF = q := Option.some.inj hq; omega)
                have hIc := own_onlyX hIc (HG1.out _ _ hg9) (fun q hq e => by have := (hIc.lt q hq).1; omega)
                have b3w : b3 ≤ w9.heap.size := Nat.le_trans b3w hg9.size
                have f0 : (w9).cell? ⟨bF, i * 4, none⟩ = some (.int .i64 p) := own_at (j := 0) hFc fcCells_len HYI.out rfl
                have f1 : (w9).cell? ⟨bF, i * 4 + 1, none⟩ = some (.slice A n c) := own_at (j := 1) hFc fcCells_len HYI.out rfl
                have f2 : (w9).cell? ⟨bF, i * 4 + 2, none⟩ = some (.int .i64 r) := own_at (j := 2) hFc fcCells_len HYI.out rfl
                have f3 : (w9).cell? ⟨bF, i * 4 + 3, none⟩ = some (.slice B a e) := own_at (j := 3) hFc fcCells_len HYI.out rfl
                have hTc := hTc'
                have HIX := Lib.hid hix
                clear hTc' hg9 hix
                refine wpAnyH_take (i := 14) (v := ?_) rfl (by kernel_rfl) (by kernel_rfl) (by kernel_rfl) (fun _ _ _ h => h) (Or.inl ⟨by rfl, ?_⟩) (by assumption) ?_
                rotate_left
                · intro wq hSw; clear hSw; go_simp; (try with_reducible rfl)
                (try simp only [List.getElem_toArray, List.getElem_cons_zero, List.getElem_cons_succ, Act.put, List.setIfInBounds_toArray, List.set_cons_zero, List.set_cons_succ])
                refine wpAnyH_ready (rs := [15]) (by kernel_rfl) (by simp) ?_
                refine AllReadyH.cons (i := 15) (by rfl) ?_ (AllReadyH.nil)
                intro K' hK
                simp only [List.getElem_toArray, List.getElem_cons_zero, List.getElem_cons_succ]
                refine if_yes (by kernel_rfl) ?_
                go_big_op
                refine hK.out _ _ ?_ (fun hHeld2 => ?_)
                · exact ⟨hHeld.1.alloc _, own_at (j := 2) (own_keep hFc (keep_alloc (Below.refl _ _) _)) fcCells_len HYI.out rfl⟩
                clear hK K' hHeld
                have hHeld := hHeld2
                clear hHeld2
                (try simp only [List.getElem_toArray, List.getElem_cons_zero, List.getElem_cons_succ, Act.put, List.setIfInBounds_toArray, List.set_cons_zero, List.set_cons_succ])
                have hfr := Reads.freshAs w9 #[.int .i64 25, .int .i64 (ix : Int), .int .i64 0, .int .i64 0, .int .u64 0] 55 5 1 [.int .i64 25, .int .i64 (ix : Int), .int .i64 0, .int .i64 0, .int .u64 0] rfl rfl (by decide)
                have hba : Below w9.heap.size w9 (w9.alloc (.cells #[.int .i64 25, .int .i64 (ix : Int), .int .i64 0, .int .i64 0, .int .u64 0] 55)) := keep_alloc (Below.refl _ _) _
                have hFc := own_keep hFc hba
                have hIc := own_keep hIc hba
                have hTc := hTc.below hba
                have b3w := Nat.le_trans b3w hba.size
                have f0 : (w9.alloc (.cells #[.int .i64 25, .int .i64 (ix : Int), .int .i64 0, .int .i64 0, .int .u64 0] 55)).cell? ⟨bF, i * 4, none⟩ = some (.int .i64 p) := own_at (j := 0) hFc fcCells_len HYI.out rfl
                have f1 : (w9.alloc (.cells #[.int .i64 25, .int .i64 (ix : Int), .int .i64 0, .int .i64 0, .int .u64 0] 55)).cell? ⟨bF, i * 4 + 1, none⟩ = some (.slice A n c) := own_at (j := 1) hFc fcCells_len HYI.out rfl
                have f2 : (w9.alloc (.cells #[.int .i64 25, .int .i64 (ix : Int), .int .i64 0, .int .i64 0, .int .u64 0] 55)).cell? ⟨bF, i * 4 + 2, none⟩ = some (.int .i64 r) := own_at (j := 2) hFc fcCells_len HYI.out rfl
                have f3 : (w9.alloc (.cells #[.int .i64 25, .int .i64 (ix : Int), .int .i64 0, .int .i64 0, .int .u64 0] 55)).cell? ⟨bF, i * 4 + 3, none⟩ = some (.slice B a e) := own_at (j := 3) hFc fcCells_len HYI.out rfl
                clear hba
                refine wpAnyH_ready (rs := [16]) (by kernel_rfl) (by simp) ?_
                refine AllReadyH.cons (i := 16) (by rfl) ?_ (AllReadyH.nil)
                intro K' hK
                refine step_appB rfl _ _ _ (by rfl) tyRInsM (by rfl) hIc (by rfl) hfr (by simp [Value.oneCell']) q1' q2' b3w ?_; intro v' w10 hown10 hg10 hbk10; obtain ⟨A10, c10, rfl, -⟩ := Reads.own hown10
                refine hK.out _ _ ?_ (fun hHeld2 => ?_)
                · exact ⟨hHeld.1.row hg10 (fun q hq _ => Or.inr (Or.inr (hIc.lt q hq).1)), own_at (j := 2) (own_other hFc hIc (by decide) hg10) fcCells_len HYI.out rfl⟩
                clear hK K' hHeld
                have hHeld := hHeld2
                clear hHeld2
                (try simp only [List.getElem_toArray, List.getElem_cons_zero, List.getElem_cons_succ, Act.put, List.setIfInBounds_toArray, List.set_cons_zero, List.set_cons_succ])
                have hF10 := own_other hFc hIc (by decide) hg10
                have f3 : w10.cell? ⟨bF, i * 4 + 3, none⟩ = some (.slice B a e) := own_at (j := 3) hF10 fcCells_len HYI.out rfl
                have ff := own_free hF10
                have hT10 := tape_row hTc hg10 (fun e => by have := (hIc.lt _ e).1; omega)
                refine wpAnyH_take (i := 17) (v := ?_) rfl (by kernel_rfl) (by kernel_rfl) (by kernel_rfl) (fun _ _ _ h => h) (Or.inl ⟨by rfl, ?_⟩) (by assumption) ?_
                rotate_left
                · intro wq hSw; clear hSw; go_simp; (try with_reducible rfl)
                (try simp only [List.getElem_toArray, List.getElem_cons_zero, List.getElem_cons_succ, Act.put, List.setIfInBounds_toArray, List.set_cons_zero, List.set_cons_succ])
                refine wpAnyH_take (i := 18) (v := ?_) rfl (by kernel_rfl) (by kernel_rfl) (by kernel_rfl) (fun _ _ _ h => h) (Or.inl ⟨by rfl, ?_⟩) (by assumption) ?_
                rotate_left
                · intro wq hSw; clear hSw; go_simp; (try with_reducible rfl)
                (try simp only [List.getElem_toArray, List.getElem_cons_zero, List.getElem_cons_succ, Act.put, List.setIfInBounds_toArray, List.set_cons_zero, List.set_cons_succ])
                refine wpAnyH_ready (rs := [19]) (by kernel_rfl) (by simp) ?_
                refine AllReadyH.cons (i := 19) (by rfl) ?_ (AllReadyH.nil)
                intro K' hK
                simp only [List.getElem_toArray, List.getElem_cons_zero, List.getElem_cons_succ]
                refine if_yes (by kernel_rfl) ?_
                go_big_op
                refine hK.out _ _ ?_ (fun hHeld2 => ?_)
                · exact ⟨hHeld.1.set (p := ⟨bF, i * 4 + 3, none⟩) (fun _ => Or.inr (Or.inl rfl)) _, (World.cell?_setCell_other _ ⟨bF, i * 4 + 3, none⟩ ⟨bF, i * 4 + 2, none⟩ _ (by simp)).trans hHeld.2⟩
                clear hK K' hHeld
                have hHeld := hHeld2
                clear hHeld2
                (try simp only [List.getElem_toArray, List.getElem_cons_zero, List.getElem_cons_succ, Act.put, List.setIfInBounds_toArray, List.set_cons_zero, List.set_cons_succ])
                refine wpAnyH_done (by kernel_rfl) ?_ _
                refine NoPanic.normal ?_
                have hFf := (hF10.stored (i * 4 + 3) (.slice A10 (a + 1) c10)).1
                rw [fcset HYI.out, List.set_set] at hFf
                have hIf := own_store hown10 hF10 (by decide) (i * 4 + 3) (.slice A10 (a + 1) c10)
                have hTf := hT10.setN (p := ⟨bF, i * 4 + 3, none⟩) (by show g < bF; omega) (.slice A10 (a + 1) c10)
                have hXf : OnlyX (fun i => i = g ∨ i = bF) w7 _ := hX8.more hHeld.1 (fun q hq h => by have := HB3.out; rcases h with h | h | h; (· exact Or.inl h); (· exact Or.inr h); (· omega))
                have hIf2 := own_ret hIf
                obtain ⟨A11, c11, e11, hIR⟩ := Reads.own hIf2
                injection e11 with x1 x2 x3
                subst x1 x3
                have hX6f : OnlyX (fun i => i = g ∨ i = bF) w6 _ := HX67.out.trans hXf
                have hX63 := hX6f.mono (Y := (fun i => i ≤ r0 ∨ i = bF)) (fun q _ h => by rcases h with h | h; (· exact Or.inl (by omega)); (· exact Or.inr h))
                have hMf := HM6.out.onlyX hX63
                have hMo := hMf.2 i _ _ HFX.out HFF.out
                have hMf2 := hMf.set i (x := ⟨p, A, n, c, r, A10, a + 1, c10⟩) (f := ⟨p, gl, r, xs ++ [(⟨25, (ix : Int), 0, 0, 0#64⟩ : NI)]⟩) ⟨rfl, rfl, hMo.locs, hMo.lf, hIR, fun b off _ e hx => by have e' : A10 = some ⟨b, off, none⟩ := e; have := (hIf2.lt b (by rw [e']; rfl)).1; omega, hMo.ok⟩
                have HMF := Lib.hid hMf2
                have HXF := Lib.hid (hX6.trans hX6f)
                have hxl2 : (xs ++ [(⟨25, (ix : Int), 0, 0, 0#64⟩ : NI)]).length = a + 1 := by simp [HXL.out]
                have HDN := Lib.hid (show DoneF j fns nats ⟨p, gl, r, xs ++ [(⟨25, (ix : Int), 0, 0, 0#64⟩ : NI)]⟩ from ⟨by dsimp only; rw [hxl2]; omega, by dsimp only; rw [hxl2]; omega, ⟨_, by dsimp only; rw [hxl2, List.getElem?_append_right (by rw [HXL.out]; omega), HXL.out]; simp; rfl, rfl⟩, fun x hx => by
                  dsimp only at hx ⊢
                  rw [hxl2]
                  rcases List.mem_append.1 hx with hx | hx
                  · exact HXS.out x hx
                  · simp only [List.mem_singleton] at hx
                    subst hx
                    have hat : At gl (ix : Int) r := At.mk' (by have := HHO.out.n7; omega) HIX.out
                    exact ⟨suit_ret hat (byte_nat (j := 0) (by omega)) (byte_nat (j := 0) (by omega)), ⟨by unfold I64; dsimp only; omega, hat.i64, by unfold I64; dsimp only; omega, by unfold I64; dsimp only; omega⟩⟩⟩)
                clear f3 ff hF10 hT10 hHeld hown10 hfr hXf hIc hFc hIf hIf2 hIR hX6f hX63 hMf hMo hMf2 hxl2
                go_wp2_with fail
                go_roundw
                case rel => exact ⟨i + 1, _, _, t9, by omega, by go_num, hFf, HMF.out, HST.out.set HDN.out, HSIG.out.set HFF.out rfl rfl rfl, hTf, by omega, HXF.out⟩
                case measure => simp [intOf]; omega
              · skip
                intro K' hK
                simp only [List.getElem_toArray, List.getElem_cons_zero, List.getElem_cons_succ]
                refine if_yes (by kernel_rfl) ?_
                go_big_op
                refine hK.out _ _ ?_ (fun hHeld2 => ?_)
                · exact hHeld
                clear hK K' hHeld
                have hHeld := hHeld2
                clear hHeld2
                (try simp only [List.getElem_toArray, List.getElem_cons_zero, List.getElem_cons_succ, Act.put, List.setIfInBounds_toArray, List.set_cons_zero, List.set_cons_succ])
                refine wpAnyH_ready (rs := [4, 13]) (by kernel_rfl) (by simp) ?_
                refine AllReadyH.cons (i := 4) (by rfl) ?_ (AllReadyH.cons (i := 13) (by rfl) ?_ (AllReadyH.nil))
                · skip
                  intro K' hK
                  simp only [List.getElem_toArray, List.getElem_cons_zero, List.getElem_cons_succ]
                  refine if_yes (by kernel_rfl) ?_
                  go_big_op
                  refine hK.out _ _ ?_ (fun hHeld2 => ?_)
                  · exact hHeld
                  clear hK K' hHeld
                  have hHeld := hHeld2
                  clear hHeld2
                  (try simp only [List.getElem_toArray, List.getElem_cons_zero, List.getElem_cons_succ, Act.put, List.setIfInBounds_toArray, List.set_cons_zero, List.set_cons_succ])
                  refine wpAnyH_ready (rs := [13]) (by kernel_rfl) (by simp) ?_
                  refine AllReadyH.cons (i := 13) (by rfl) ?_ (AllReadyH.nil)
                  intro K' hK
                  simp only [List.getElem_toArray, List.getElem_cons_zero, List.getElem_cons_succ]
                  refine if_yes (by kernel_rfl) ?_
                  go_big_op
                  (go_at_call 57; refine HCALL.out.mono ?_; rintro e w9 ⟨ix, rfl, hix, t9, ht9, hTc', hg9⟩)
                  refine hK.out _ _ ?_ (fun hHeld2 => ?_)
                  · exact ⟨hHeld.1.trans ((HG1.out _ _ hg9).mono (fun q _ e => Or.inl e)), own_at (j := 2) (own_onlyX hFc (HG1.out _ _ hg9) (fun q hq e => by have hq' : bF = q := Option.some.inj hq; omega)) fcCells_len HYI.out rfl⟩
                  clear hK K' hHeld
                  have hHeld := hHeld2
                  clear hHeld2
                  (try simp only [List.getElem_toArray, List.getElem_cons_zero, List.getElem_cons_succ, Act.put, List.setIfInBounds_toArray, List.set_cons_zero, List.set_cons_succ])
                  have hFc := own_onlyX hFc (HG1.out _ _ hg9) (fun q hq e => by have hq' : bF = q := Option.some.inj hq; omega)
                  have hIc := own_onlyX hIc (HG1.out _ _ hg9) (fun q hq e => by have := (hIc.lt q hq).1; omega)
                  have b3w : b3 ≤ w9.heap.size := Nat.le_trans b3w hg9.size
                  have f0 : (w9).cell? ⟨bF, i * 4, none⟩ = some (.int .i64 p) := own_at (j := 0) hFc fcCells_len HYI.out rfl
                  have f1 : (w9).cell? ⟨bF, i * 4 + 1, none⟩ = some (.slice A n c) := own_at (j := 1) hFc fcCells_len HYI.out rfl
                  have f2 : (w9).cell? ⟨bF, i * 4 + 2, none⟩ = some (.int .i64 r) := own_at (j := 2) hFc fcCells_len HYI.out rfl
                  have f3 : (w9).cell? ⟨bF, i * 4 + 3, none⟩ = some (.slice B a e) := own_at (j := 3) hFc fcCells_len HYI.out rfl
                  have hTc := hTc'
                  have HIX := Lib.hid hix
                  clear hTc' hg9 hix
                  refine wpAnyH_take (i := 14) (v := ?_) rfl (by kernel_rfl) (by kernel_rfl) (by kernel_rfl) (fun _ _ _ h => h) (Or.inl ⟨by rfl, ?_⟩) (by assumption) ?_
                  rotate_left
                  · intro wq hSw; clear hSw; go_simp; (try with_reducible rfl)
                  (try simp only [List.getElem_toArray, List.getElem_cons_zero, List.getElem_cons_succ, Act.put, List.setIfInBounds_toArray, List.set_cons_zero, List.set_cons_succ])
                  refine wpAnyH_ready (rs := [15]) (by kernel_rfl) (by simp) ?_
                  refine AllReadyH.cons (i := 15) (by rfl) ?_ (AllReadyH.nil)
                  intro K' hK
                  simp only [List.getElem_toArray, List.getElem_cons_zero, List.getElem_cons_succ]
                  refine if_yes (by kernel_rfl) ?_
                  go_big_op
                  refine hK.out _ _ ?_ (fun hHeld2 => ?_)
                  · exact ⟨hHeld.1.alloc _, own_at (j := 2) (own_keep hFc (keep_alloc (Below.refl _ _) _)) fcCells_len HYI.out rfl⟩
                  clear hK K' hHeld
                  have hHeld := hHeld2
                  clear hHeld2
                  (try simp only [List.getElem_toArray, List.getElem_cons_zero, List.getElem_cons_succ, Act.put, List.setIfInBounds_toArray, List.set_cons_zero, List.set_cons_succ])
                  have hfr := Reads.freshAs w9 #[.int .i64 25, .int .i64 (ix : Int), .int .i64 0, .int .i64 0, .int .u64 0] 55 5 1 [.int .i64 25, .int .i64 (ix : Int), .int .i64 0, .int .i64 0, .int .u64 0] rfl rfl (by decide)
                  have hba : Below w9.heap.size w9 (w9.alloc (.cells #[.int .i64 25, .int .i64 (ix : Int), .int .i64 0, .int .i64 0, .int .u64 0] 55)) := keep_alloc (Below.refl _ _) _
                  have hFc := own_keep hFc hba
                  have hIc := own_keep hIc hba
                  have hTc := hTc.below hba
                  have b3w := Nat.le_trans b3w hba.size
                  have f0 : (w9.alloc (.cells #[.int .i64 25, .int .i64 (ix : Int), .int .i64 0, .int .i64 0, .int .u64 0] 55)).cell? ⟨bF, i * 4, none⟩ = some (.int .i64 p) := own_at (j := 0) hFc fcCells_len HYI.out rfl
                  have f1 : (w9.alloc (.cells #[.int .i64 25, .int .i64 (ix : Int), .int .i64 0, .int .i64 0, .int .u64 0] 55)).cell? ⟨bF, i * 4 + 1, none⟩ = some (.slice A n c) := own_at (j := 1) hFc fcCells_len HYI.out rfl
                  have f2 : (w9.alloc (.cells #[.int .i64 25, .int .i64 (ix : Int), .int .i64 0, .int .i64 0, .int .u64 0] 55)).cell? ⟨bF, i * 4 + 2, none⟩ = some (.int .i64 r) := own_at (j := 2) hFc fcCells_len HYI.out rfl
                  have f3 : (w9.alloc (.cells #[.int .i64 25, .int .i64 (ix : Int), .int .i64 0, .int .i64 0, .int .u64 0] 55)).cell? ⟨bF, i * 4 + 3, none⟩ = some (.slice B a e) := own_at (j := 3) hFc fcCells_len HYI.out rfl
                  clear hba
                  refine wpAnyH_ready (rs := [16]) (by kernel_rfl) (by simp) ?_
                  refine AllReadyH.cons (i := 16) (by rfl) ?_ (AllReadyH.nil)
                  intro K' hK
                  refine step_appB rfl _ _ _ (by rfl) tyRInsM (by rfl) hIc (by rfl) hfr (by simp [Value.oneCell']) q1' q2' b3w ?_; intro v' w10 hown10 hg10 hbk10; obtain ⟨A10, c10, rfl, -⟩ := Reads.own hown10
                  refine hK.out _ _ ?_ (fun hHeld2 => ?_)
                  · exact ⟨hHeld.1.row hg10 (fun q hq _ => Or.inr (Or.inr (hIc.lt q hq).1)), own_at (j := 2) (own_other hFc hIc (by decide) hg10) fcCells_len HYI.out rfl⟩
                  clear hK K' hHeld
                  have hHeld := hHeld2
                  clear hHeld2
                  (try simp only [List.getElem_toArray, List.getElem_cons_zero, List.getElem_cons_succ, Act.put, List.setIfInBounds_toArray, List.set_cons_zero, List.set_cons_succ])
                  have hF10 := own_other hFc hIc (by decide) hg10
                  have f3 : w10.cell? ⟨bF, i * 4 + 3, none⟩ = some (.slice B a e) := own_at (j := 3) hF10 fcCells_len HYI.out rfl
                  have ff := own_free hF10
                  have hT10 := tape_row hTc hg10 (fun e => by have := (hIc.lt _ e).1; omega)
                  refine wpAnyH_take (i := 17) (v := ?_) rfl (by kernel_rfl) (by kernel_rfl) (by kernel_rfl) (fun _ _ _ h => h) (Or.inl ⟨by rfl, ?_⟩) (by assumption) ?_
                  rotate_left
                  · intro wq hSw; clear hSw; go_simp; (try with_reducible rfl)
                  (try simp only [List.getElem_toArray, List.getElem_cons_zero, List.getElem_cons_succ, Act.put, List.setIfInBounds_toArray, List.set_cons_zero, List.set_cons_succ])
                  refine wpAnyH_take (i := 18) (v := ?_) rfl (by kernel_rfl) (by kernel_rfl) (by kernel_rfl) (fun _ _ _ h => h) (Or.inl ⟨by rfl, ?_⟩) (by assumption) ?_
                  rotate_left
                  · intro wq hSw; clear hSw; go_simp; (try with_reducible rfl)
                  (try simp only [List.getElem_toArray, List.getElem_cons_zero, List.getElem_cons_succ, Act.put, List.setIfInBounds_toArray, List.set_cons_zero, List.set_cons_succ])
                  refine wpAnyH_ready (rs := [19]) (by kernel_rfl) (by simp) ?_
                  refine AllReadyH.cons (i := 19) (by rfl) ?_ (AllReadyH.nil)
                  intro K' hK
                  simp only [List.getElem_toArray, List.getElem_cons_zero, List.getElem_cons_succ]
                  refine if_yes (by kernel_rfl) ?_
                  go_big_op
                  refine hK.out _ _ ?_ (fun hHeld2 => ?_)
                  · exact ⟨hHeld.1.set (p := ⟨bF, i * 4 + 3, none⟩) (fun _ => Or.inr (Or.inl rfl)) _, (World.cell?_setCell_other _ ⟨bF, i * 4 + 3, none⟩ ⟨bF, i * 4 + 2, none⟩ _ (by simp)).trans hHeld.2⟩
                  clear hK K' hHeld
                  have hHeld := hHeld2
                  clear hHeld2
                  (try simp only [List.getElem_toArray, List.getElem_cons_zero, List.getElem_cons_succ, Act.put, List.setIfInBounds_toArray, List.set_cons_zero, List.set_cons_succ])
                  refine wpAnyH_done (by kernel_rfl) ?_ _
                  refine NoPanic.normal ?_
                  have hFf := (hF10.stored (i * 4 + 3) (.slice A10 (a + 1) c10)).1
                  rw [fcset HYI.out, List.set_set] at hFf
                  have hIf := own_store hown10 hF10 (by decide) (i * 4 + 3) (.slice A10 (a + 1) c10)
                  have hTf := hT10.setN (p := ⟨bF, i * 4 + 3, none⟩) (by show g < bF; omega) (.slice A10 (a + 1) c10)
                  have hXf : OnlyX (fun i => i = g ∨ i = bF) w7 _ := hX8.more hHeld.1 (fun q hq h => by have := HB3.out; rcases h with h | h | h; (· exact Or.inl h); (· exact Or.inr h); (· omega))
                  have hIf2 := own_ret hIf
                  obtain ⟨A11, c11, e11, hIR⟩ := Reads.own hIf2
                  injection e11 with x1 x2 x3
                  subst x1 x3
                  have hX6f : OnlyX (fun i => i = g ∨ i = bF) w6 _ := HX67.out.trans hXf
                  have hX63 := hX6f.mono (Y := (fun i => i ≤ r0 ∨ i = bF)) (fun q _ h => by rcases h with h | h; (· exact Or.inl (by omega)); (· exact Or.inr h))
                  have hMf := HM6.out.onlyX hX63
                  have hMo := hMf.2 i _ _ HFX.out HFF.out
                  have hMf2 := hMf.set i (x := ⟨p, A, n, c, r, A10, a + 1, c10⟩) (f := ⟨p, gl, r, xs ++ [(⟨25, (ix : Int), 0, 0, 0#64⟩ : NI)]⟩) ⟨rfl, rfl, hMo.locs, hMo.lf, hIR, fun b off _ e hx => by have e' : A10 = some ⟨b, off, none⟩ := e; have := (hIf2.lt b (by rw [e']; rfl)).1; omega, hMo.ok⟩
                  have HMF := Lib.hid hMf2
                  have HXF := Lib.hid (hX6.trans hX6f)
                  have hxl2 : (xs ++ [(⟨25, (ix : Int), 0, 0, 0#64⟩ : NI)]).length = a + 1 := by simp [HXL.out]
                  have HDN := Lib.hid (show DoneF j fns nats ⟨p, gl, r, xs ++ [(⟨25, (ix : Int), 0, 0, 0#64⟩ : NI)]⟩ from ⟨by dsimp only; rw [hxl2]; omega, by dsimp only; rw [hxl2]; omega, ⟨_, by dsimp only; rw [hxl2, List.getElem?_append_right (by rw [HXL.out]; omega), HXL.out]; simp; rfl, rfl⟩, fun x hx => by
                    dsimp only at hx ⊢
                    rw [hxl2]
                    rcases List.mem_append.1 hx with hx | hx
                    · exact HXS.out x hx
                    · simp only [List.mem_singleton] at hx
                      subst hx
                      have hat : At gl (ix : Int) r := At.mk' (by have := HHO.out.n7; omega) HIX.out
                      exact ⟨suit_ret hat (byte_nat (j := 0) (by omega)) (byte_nat (j := 0) (by omega)), ⟨by unfold I64; dsimp only; omega, hat.i64, by unfold I64; dsimp only; omega, by unfold I64; dsimp only; omega⟩⟩⟩)
                  clear f3 ff hF10 hT10 hHeld hown10 hfr hXf hIc hFc hIf hIf2 hIR hX6f hX63 hMf hMo hMf2 hxl2
                  go_wp2_with fail
                  go_roundw
                  case rel => exact ⟨i + 1, _, _, t9, by omega, by go_num, hFf, HMF.out, HST.out.set HDN.out, HSIG.out.set HFF.out rfl rfl rfl, hTf, by omega, HXF.out⟩
                  case measure => simp [intOf]; omega
                · skip
                  intro K' hK
                  simp only [List.getElem_toArray, List.getElem_cons_zero, List.getElem_cons_succ]
                  refine if_yes (by kernel_rfl) ?_
                  go_big_op
                  (go_at_call 57; refine HCALL.out.mono ?_; rintro e w9 ⟨ix, rfl, hix, t9, ht9, hTc', hg9⟩)
                  refine hK.out _ _ ?_ (fun hHeld2 => ?_)
                  · exact ⟨hHeld.1.trans ((HG1.out _ _ hg9).mono (fun q _ e => Or.inl e)), own_at (j := 2) (own_onlyX hFc (HG1.out _ _ hg9) (fun q hq e => by have hq' : bF = q := Option.some.inj hq; omega)) fcCells_len HYI.out rfl⟩
                  clear hK K' hHeld
                  have hHeld := hHeld2
                  clear hHeld2
                  (try simp only [List.getElem_toArray, List.getElem_cons_zero, List.getElem_cons_succ, Act.put, List.setIfInBounds_toArray, List.set_cons_zero, List.set_cons_succ])
                  have hFc := own_onlyX hFc (HG1.out _ _ hg9) (fun q hq e => by have hq' : bF = q := Option.some.inj hq; omega)
                  have hIc := own_onlyX hIc (HG1.out _ _ hg9) (fun q hq e => by have := (hIc.lt q hq).1; omega)
                  have b3w : b3 ≤ w9.heap.size := Nat.le_trans b3w hg9.size
                  have f0 : (w9).cell? ⟨bF, i * 4, none⟩ = some (.int .i64 p) := own_at (j := 0) hFc fcCells_len HYI.out rfl
                  have f1 : (w9).cell? ⟨bF, i * 4 + 1, none⟩ = some (.slice A n c) := own_at (j := 1) hFc fcCells_len HYI.out rfl
                  have f2 : (w9).cell? ⟨bF, i * 4 + 2, none⟩ = some (.int .i64 r) := own_at (j := 2) hFc fcCells_len HYI.out rfl
                  have f3 : (w9).cell? ⟨bF, i * 4 + 3, none⟩ = some (.slice B a e) := own_at (j := 3) hFc fcCells_len HYI.out rfl
                  have hTc := hTc'
                  have HIX := Lib.hid hix
                  clear hTc' hg9 hix
                  refine wpAnyH_take (i := 14) (v := ?_) rfl (by kernel_rfl) (by kernel_rfl) (by kernel_rfl) (fun _ _ _ h => h) (Or.inl ⟨by rfl, ?_⟩) (by assumption) ?_
                  rotate_left
                  · intro wq hSw; clear hSw; go_simp; (try with_reducible rfl)
                  (try simp only [List.getElem_toArray, List.getElem_cons_zero, List.getElem_cons_succ, Act.put, List.setIfInBounds_toArray, List.set_cons_zero, List.set_cons_succ])
                  refine wpAnyH_ready (rs := [4, 15]) (by kernel_rfl) (by simp) ?_
                  refine AllReadyH.cons (i := 4) (by rfl) ?_ (AllReadyH.cons (i := 15) (by rfl) ?_ (AllReadyH.nil))
                  · skip
                    intro K' hK
                    simp only [List.getElem_toArray, List.getElem_cons_zero, List.getElem_cons_succ]
                    refine if_yes (by kernel_rfl) ?_
                    go_big_op
                    refine hK.out _ _ ?_ (fun hHeld2 => ?_)
                    · exact hHeld
                    clear hK K' hHeld
                    have hHeld := hHeld2
                    clear hHeld2
                    (try simp only [List.getElem_toArray, List.getElem_cons_zero, List.getElem_cons_succ, Act.put, List.setIfInBounds_toArray, List.set_cons_zero, List.set_cons_succ])
                    refine wpAnyH_ready (rs := [15]) (by kernel_rfl) (by simp) ?_
                    refine AllReadyH.cons (i := 15) (by rfl) ?_ (AllReadyH.nil)
                    intro K' hK
                    simp only [List.getElem_toArray, List.getElem_cons_zero, List.getElem_cons_succ]
                    refine if_yes (by kernel_rfl) ?_
                    go_big_op
                    refine hK.out _ _ ?_ (fun hHeld2 => ?_)
                    · exact ⟨hHeld.1.alloc _, own_at (j := 2) (own_keep hFc (keep_alloc (Below.refl _ _) _)) fcCells_len HYI.out rfl⟩
                    clear hK K' hHeld
                    have hHeld := hHeld2
                    clear hHeld2
                    (try simp only [List.getElem_toArray, List.getElem_cons_zero, List.getElem_cons_succ, Act.put, List.setIfInBounds_toArray, List.set_cons_zero, List.set_cons_succ])
                    have hfr := Reads.freshAs w9 #[.int .i64 25, .int .i64 (ix : Int), .int .i64 0, .int .i64 0, .int .u64 0] 55 5 1 [.int .i64 25, .int .i64 (ix : Int), .int .i64 0, .int .i64 0, .int .u64 0] rfl rfl (by decide)
                    have hba : Below w9.heap.size w9 (w9.alloc (.cells #[.int .i64 25, .int .i64 (ix : Int), .int .i64 0, .int .i64 0, .int .u64 0] 55)) := keep_alloc (Below.refl _ _) _
                    have hFc := own_keep hFc hba
                    have hIc := own_keep hIc hba
                    have hTc := hTc.below hba
                    have b3w := Nat.le_trans b3w hba.size
                    have f0 : (w9.alloc (.cells #[.int .i64 25, .int .i64 (ix : Int), .int .i64 0, .int .i64 0, .int .u64 0] 55)).cell? ⟨bF, i * 4, none⟩ = some (.int .i64 p) := own_at (j := 0) hFc fcCells_len HYI.out rfl
                    have f1 : (w9.alloc (.cells #[.int .i64 25, .int .i64 (ix : Int), .int .i64 0, .int .i64 0, .int .u64 0] 55)).cell? ⟨bF, i * 4 + 1, none⟩ = some (.slice A n c) := own_at (j := 1) hFc fcCells_len HYI.out rfl
                    have f2 : (w9.alloc (.cells #[.int .i64 25, .int .i64 (ix : Int), .int .i64 0, .int .i64 0, .int .u64 0] 55)).cell? ⟨bF, i * 4 + 2, none⟩ = some (.int .i64 r) := own_at (j := 2) hFc fcCells_len HYI.out rfl
                    have f3 : (w9.alloc (.cells #[.int .i64 25, .int .i64 (ix : Int), .int .i64 0, .int .i64 0, .int .u64 0] 55)).cell? ⟨bF, i * 4 + 3, none⟩ = some (.slice B a e) := own_at (j := 3) hFc fcCells_len HYI.out rfl
                    clear hba
                    refine wpAnyH_ready (rs := [16]) (by kernel_rfl) (by simp) ?_
                    refine AllReadyH.cons (i := 16) (by rfl) ?_ (AllReadyH.nil)
                    intro K' hK
                    refine step_appB rfl _ _ _ (by rfl) tyRInsM (by rfl) hIc (by rfl) hfr (by simp [Value.oneCell']) q1' q2' b3w ?_; intro v' w10 hown10 hg10 hbk10; obtain ⟨A10, c10, rfl, -⟩ := Reads.own hown10
                    refine hK.out _ _ ?_ (fun hHeld2 => ?_)
                    · exact ⟨hHeld.1.row hg10 (fun q hq _ => Or.inr (Or.inr (hIc.lt q hq).1)), own_at (j := 2) (own_other hFc hIc (by decide) hg10) fcCells_len HYI.out rfl⟩
                    clear hK K' hHeld
                    have hHeld := hHeld2
                    clear hHeld2
                    (try simp only [List.getElem_toArray, List.getElem_cons_zero, List.getElem_cons_succ, Act.put, List.setIfInBounds_toArray, List.set_cons_zero, List.set_cons_succ])
                    have hF10 := own_other hFc hIc (by decide) hg10
                    have f3 : w10.cell? ⟨bF, i * 4 + 3, none⟩ = some (.slice B a e) := own_at (j := 3) hF10 fcCells_len HYI.out rfl
                    have ff := own_free hF10
                    have hT10 := tape_row hTc hg10 (fun e => by have := (hIc.lt _ e).1; omega)
                    refine wpAnyH_take (i := 17) (v := ?_) rfl (by kernel_rfl) (by kernel_rfl) (by kernel_rfl) (fun _ _ _ h => h) (Or.inl ⟨by rfl, ?_⟩) (by assumption) ?_
                    rotate_left
                    · intro wq hSw; clear hSw; go_simp; (try with_reducible rfl)
                    (try simp only [List.getElem_toArray, List.getElem_cons_zero, List.getElem_cons_succ, Act.put, List.setIfInBounds_toArray, List.set_cons_zero, List.set_cons_succ])
                    refine wpAnyH_take (i := 18) (v := ?_) rfl (by kernel_rfl) (by kernel_rfl) (by kernel_rfl) (fun _ _ _ h => h) (Or.inl ⟨by rfl, ?_⟩) (by assumption) ?_
                    rotate_left
                    · intro wq hSw; clear hSw; go_simp; (try with_reducible rfl)
                    (try simp only [List.getElem_toArray, List.getElem_cons_zero, List.getElem_cons_succ, Act.put, List.setIfInBounds_toArray, List.set_cons_zero, List.set_cons_succ])
                    refine wpAnyH_ready (rs := [19]) (by kernel_rfl) (by simp) ?_
                    refine AllReadyH.cons (i := 19) (by rfl) ?_ (AllReadyH.nil)
                    intro K' hK
                    simp only [List.getElem_toArray, List.getElem_cons_zero, List.getElem_cons_succ]
                    refine if_yes (by kernel_rfl) ?_
                    go_big_op
                    refine hK.out _ _ ?_ (fun hHeld2 => ?_)
                    · exact ⟨hHeld.1.set (p := ⟨bF, i * 4 + 3, none⟩) (fun _ => Or.inr (Or.inl rfl)) _, (World.cell?_setCell_other _ ⟨bF, i * 4 + 3, none⟩ ⟨bF, i * 4 + 2, none⟩ _ (by simp)).trans hHeld.2⟩
                    clear hK K' hHeld
                    have hHeld := hHeld2
                    clear hHeld2
                    (try simp only [List.getElem_toArray, List.getElem_cons_zero, List.getElem_cons_succ, Act.put, List.setIfInBounds_toArray, List.set_cons_zero, List.set_cons_succ])
                    refine wpAnyH_done (by kernel_rfl) ?_ _
                    refine NoPanic.normal ?_
                    have hFf := (hF10.stored (i * 4 + 3) (.slice A10 (a + 1) c10)).1
                    rw [fcset HYI.out, List.set_set] at hFf
                    have hIf := own_store hown10 hF10 (by decide) (i * 4 + 3) (.slice A10 (a + 1) c10)
                    have hTf := hT10.setN (p := ⟨bF, i * 4 + 3, none⟩) (by show g < bF; omega) (.slice A10 (a + 1) c10)
                    have hXf : OnlyX (fun i => i = g ∨ i = bF) w7 _ := hX8.more hHeld.1 (fun q hq h => by have := HB3.out; rcases h with h | h | h; (· exact Or.inl h); (· exact Or.inr h); (· omega))
                    have hIf2 := own_ret hIf
                    obtain ⟨A11, c11, e11, hIR⟩ := Reads.own hIf2
                    injection e11 with x1 x2 x3
                    subst x1 x3
                    have hX6f : OnlyX (fun i => i = g ∨ i = bF) w6 _ := HX67.out.trans hXf
                    have hX63 := hX6f.mono (Y := (fun i => i ≤ r0 ∨ i = bF)) (fun q _ h => by rcases h with h | h; (· exact Or.inl (by omega)); (· exact Or.inr h))
                    have hMf := HM6.out.onlyX hX63
                    have hMo := hMf.2 i _ _ HFX.out HFF.out
                    have hMf2 := hMf.set i (x := ⟨p, A, n, c, r, A10, a + 1, c10⟩) (f := ⟨p, gl, r, xs ++ [(⟨25, (ix : Int), 0, 0, 0#64⟩ : NI)]⟩) ⟨rfl, rfl, hMo.locs, hMo.lf, hIR, fun b off _ e hx => by have e' : A10 = some ⟨b, off, none⟩ := e; have := (hIf2.lt b (by rw [e']; rfl)).1; omega, hMo.ok⟩
                    have HMF := Lib.hid hMf2
                    have HXF := Lib.hid (hX6.trans hX6f)
                    have hxl2 : (xs ++ [(⟨25, (ix : Int), 0, 0, 0#64⟩ : NI)]).length = a + 1 := by simp [HXL.out]
                    have HDN := Lib.hid (show DoneF j fns nats ⟨p, gl, r, xs ++ [(⟨25, (ix : Int), 0, 0, 0#64⟩ : NI)]⟩ from ⟨by dsimp only; rw [hxl2]; omega, by dsimp only; rw [hxl2]; omega, ⟨_, by dsimp only; rw [hxl2, List.getElem?_append_right (by rw [HXL.out]; omega), HXL.out]; simp; rfl, rfl⟩, fun x hx => by
                      dsimp only at hx ⊢
                      rw [hxl2]
                      rcases List.mem_append.1 hx with hx | hx
                      · exact HXS.out x hx
                      · simp only [List.mem_singleton] at hx
                        subst hx
                        have hat : At gl (ix : Int) r := At.mk' (by have := HHO.out.n7; omega) HIX.out
                        exact ⟨suit_ret hat (byte_nat (j := 0) (by omega)) (byte_nat (j := 0) (by omega)), ⟨by unfold I64; dsimp only; omega, hat.i64, by unfold I64; dsimp only; omega, by unfold I64; dsimp only; omega⟩⟩⟩)
                    clear f3 ff hF10 hT10 hHeld hown10 hfr hXf hIc hFc hIf hIf2 hIR hX6f hX63 hMf hMo hMf2 hxl2
                    go_wp2_with fail
                    go_roundw
                    case rel => exact ⟨i + 1, _, _, t9, by omega, by go_num, hFf, HMF.out, HST.out.set HDN.out, HSIG.out.set HFF.out rfl rfl rfl, hTf, by omega, HXF.out⟩
                    case measure => simp [intOf]; omega
                  · skip
                    intro K' hK
                    simp only [List.getElem_toArray, List.getElem_cons_zero, List.getElem_cons_succ]
                    refine if_yes (by kernel_rfl) ?_
                    go_big_op
                    refine hK.out _ _ ?_ (fun hHeld2 => ?_)
                    · exact ⟨hHeld.1.alloc _, own_at (j := 2) (own_keep hFc (keep_alloc (Below.refl _ _) _)) fcCells_len HYI.out rfl⟩
                    clear hK K' hHeld
                    have hHeld := hHeld2
                    clear hHeld2
                    (try simp only [List.getElem_toArray, List.getElem_cons_zero, List.getElem_cons_succ, Act.put, List.setIfInBounds_toArray, List.set_cons_zero, List.set_cons_succ])
                    have hfr := Reads.freshAs w9 #[.int .i64 25, .int .i64 (ix : Int), .int .i64 0, .int .i64 0, .int .u64 0] 55 5 1 [.int .i64 25, .int .i64 (ix : Int), .int .i64 0, .int .i64 0, .int .u64 0] rfl rfl (by decide)
                    have hba : Below w9.heap.size w9 (w9.alloc (.cells #[.int .i64 25, .int .i64 (ix : Int), .int .i64 0, .int .i64 0, .int .u64 0] 55)) := keep_alloc (Below.refl _ _) _
                    have hFc := own_keep hFc hba
                    have hIc := own_keep hIc hba
                    have hTc := hTc.below hba
                    have b3w := Nat.le_trans b3w hba.size
                    have f0 : (w9.alloc (.cells #[.int .i64 25, .int .i64 (ix : Int), .int .i64 0, .int .i64 0, .int .u64 0] 55)).cell? ⟨bF, i * 4, none⟩ = some (.int .i64 p) := own_at (j := 0) hFc fcCells_len HYI.out rfl
                    have f1 : (w9.alloc (.cells #[.int .i64 25, .int .i64 (ix : Int), .int .i64 0, .int .i64 0, .int .u64 0] 55)).cell? ⟨bF, i * 4 + 1, none⟩ = some (.slice A n c) := own_at (j := 1) hFc fcCells_len HYI.out rfl
                    have f2 : (w9.alloc (.cells #[.int .i64 25, .int .i64 (ix : Int), .int .i64 0, .int .i64 0, .int .u64 0] 55)).cell? ⟨bF, i * 4 + 2, none⟩ = some (.int .i64 r) := own_at (j := 2) hFc fcCells_len HYI.out rfl
                    have f3 : (w9.alloc (.cells #[.int .i64 25, .int .i64 (ix : Int), .int .i64 0, .int .i64 0, .int .u64 0] 55)).cell? ⟨bF, i * 4 + 3, none⟩ = some (.slice B a e) := own_at (j := 3) hFc fcCells_len HYI.out rfl
                    clear hba
                    refine wpAnyH_ready (rs := [4]) (by kernel_rfl) (by simp) ?_
                    refine AllReadyH.cons (i := 4) (by rfl) ?_ (AllReadyH.nil)
                    intro K' hK
                    simp only [List.getElem_toArray, List.getElem_cons_zero, List.getElem_cons_succ]
                    refine if_yes (by kernel_rfl) ?_
                    go_big_op
                    refine hK.out _ _ ?_ (fun hHeld2 => ?_)
                    · exact hHeld
                    clear hK K' hHeld
                    have hHeld := hHeld2
                    clear hHeld2
                    (try simp only [List.getElem_toArray, List.getElem_cons_zero, List.getElem_cons_succ, Act.put, List.setIfInBounds_toArray, List.set_cons_zero, List.set_cons_succ])
                    refine wpAnyH_ready (rs := [16]) (by kernel_rfl) (by simp) ?_
                    refine AllReadyH.cons (i := 16) (by rfl) ?_ (AllReadyH.nil)
                    intro K' hK
                    refine step_appB rfl _ _ _ (by rfl) tyRInsM (by rfl) hIc (by rfl) hfr (by simp [Value.oneCell']) q1' q2' b3w ?_; intro v' w10 hown10 hg10 hbk10; obtain ⟨A10, c10, rfl, -⟩ := Reads.own hown10
                    refine hK.out _ _ ?_ (fun hHeld2 => ?_)
                    · exact ⟨hHeld.1.row hg10 (fun q hq _ => Or.inr (Or.inr (hIc.lt q hq).1)), own_at (j := 2) (own_other hFc hIc (by decide) hg10) fcCells_len HYI.out rfl⟩
                    clear hK K' hHeld
                    have hHeld := hHeld2
                    clear hHeld2
                    (try simp only [List.getElem_toArray, List.getElem_cons_zero, List.getElem_cons_succ, Act.put, List.setIfInBounds_toArray, List.set_cons_zero, List.set_cons_succ])
                    have hF10 := own_other hFc hIc (by decide) hg10
                    have f3 : w10.cell? ⟨bF, i * 4 + 3, none⟩ = some (.slice B a e) := own_at (j := 3) hF10 fcCells_len HYI.out rfl
                    have ff := own_free hF10
                    have hT10 := tape_row hTc hg10 (fun e => by have := (hIc.lt _ e).1; omega)
                    refine wpAnyH_take (i := 17) (v := ?_) rfl (by kernel_rfl) (by kernel_rfl) (by kernel_rfl) (fun _ _ _ h => h) (Or.inl ⟨by rfl, ?_⟩) (by assumption) ?_
                    rotate_left
                    · intro wq hSw; clear hSw; go_simp; (try with_reducible rfl)
                    (try simp only [List.getElem_toArray, List.getElem_cons_zero, List.getElem_cons_succ, Act.put, List.setIfInBounds_toArray, List.set_cons_zero, List.set_cons_succ])
                    refine wpAnyH_take (i := 18) (v := ?_) rfl (by kernel_rfl) (by kernel_rfl) (by kernel_rfl) (fun _ _ _ h => h) (Or.inl ⟨by rfl, ?_⟩) (by assumption) ?_
                    rotate_left
                    · intro wq hSw; clear hSw; go_simp; (try with_reducible rfl)
                    (try simp only [List.getElem_toArray, List.getElem_cons_zero, List.getElem_cons_succ, Act.put, List.setIfInBounds_toArray, List.set_cons_zero, List.set_cons_succ])
                    refine wpAnyH_ready (rs := [19]) (by kernel_rfl) (by simp) ?_
                    refine AllReadyH.cons (i := 19) (by rfl) ?_ (AllReadyH.nil)
                    intro K' hK
                    simp only [List.getElem_toArray, List.getElem_cons_zero, List.getElem_cons_succ]
                    refine if_yes (by kernel_rfl) ?_
                    go_big_op
                    refine hK.out _ _ ?_ (fun hHeld2 => ?_)
                    · exact ⟨hHeld.1.set (p := ⟨bF, i * 4 + 3, none⟩) (fun _ => Or.inr (Or.inl rfl)) _, (World.cell?_setCell_other _ ⟨bF, i * 4 + 3, none⟩ ⟨bF, i * 4 + 2, none⟩ _ (by simp)).trans hHeld.2⟩
                    clear hK K' hHeld
                    have hHeld := hHeld2
                    clear hHeld2
                    (try simp only [List.getElem_toArray, List.getElem_cons_zero, List.getElem_cons_succ, Act.put, List.setIfInBounds_toArray, List.set_cons_zero, List.set_cons_succ])
                    refine wpAnyH_done (by kernel_rfl) ?_ _
                    refine NoPanic.normal ?_
                    have hFf := (hF10.stored (i * 4 + 3) (.slice A10 (a + 1) c10)).1
                    rw [fcset HYI.out, List.set_set] at hFf
                    have hIf := own_store hown10 hF10 (by decide) (i * 4 + 3) (.slice A10 (a + 1) c10)
                    have hTf := hT10.setN (p := ⟨bF, i * 4 + 3, none⟩) (by show g < bF; omega) (.slice A10 (a + 1) c10)
                    have hXf : OnlyX (fun i => i = g ∨ i = bF) w7 _ := hX8.more hHeld.1 (fun q hq h => by have := HB3.out; rcases h with h | h | h; (· exact Or.inl h); (· exact Or.inr h); (· omega))
                    have hIf2 := own_ret hIf
                    obtain ⟨A11, c11, e11, hIR⟩ := Reads.own hIf2
                    injection e11 with x1 x2 x3
                    subst x1 x3
                    have hX6f : OnlyX (fun i => i = g ∨ i = bF) w6 _ := HX67.out.trans hXf
                    have hX63 := hX6f.mono (Y := (fun i => i ≤ r0 ∨ i = bF)) (fun q _ h => by rcases h with h | h; (· exact Or.inl (by omega)); (· exact Or.inr h))
                    have hMf := HM6.out.onlyX hX63
                    have hMo := hMf.2 i _ _ HFX.out HFF.out
                    have hMf2 := hMf.set i (x := ⟨p, A, n, c, r, A10, a + 1, c10⟩) (f := ⟨p, gl, r, xs ++ [(⟨25, (ix : Int), 0, 0, 0#64⟩ : NI)]⟩) ⟨rfl, rfl, hMo.locs, hMo.lf, hIR, fun b off _ e hx => by have e' : A10 = some ⟨b, off, none⟩ := e; have := (hIf2.lt b (by rw [e']; rfl)).1; omega, hMo.ok⟩
                    have HMF := Lib.hid hMf2
                    have HXF := Lib.hid (hX6.trans hX6f)
                    have hxl2 : (xs ++ [(⟨25, (ix : Int), 0, 0, 0#64⟩ : NI)]).length = a + 1 := by simp [HXL.out]
                    have HDN := Lib.hid (show DoneF j fns nats ⟨p, gl, r, xs ++ [(⟨25, (ix : Int), 0, 0, 0#64⟩ : NI)]⟩ from ⟨by dsimp only; rw [hxl2]; omega, by dsimp only; rw [hxl2]; omega, ⟨_, by dsimp only; rw [hxl2, List.getElem?_append_right (by rw [HXL.out]; omega), HXL.out]; simp; rfl, rfl⟩, fun x hx => by
                      dsimp only at hx ⊢
                      rw [hxl2]
                      rcases List.mem_append.1 hx with hx | hx
                      · exact HXS.out x hx
                      · simp only [List.mem_singleton] at hx
                        subst hx
                        have hat : At gl (ix : Int) r := At.mk' (by have := HHO.out.n7; omega) HIX.out
                        exact ⟨suit_ret hat (byte_nat (j := 0) (by omega)) (byte_nat (j := 0) (by omega)), ⟨by unfold I64; dsimp only; omega, hat.i64, by unfold I64; dsimp only; omega, by unfold I64; dsimp only; omega⟩⟩⟩)
                    clear f3 ff hF10 hT10 hHeld hown10 hfr hXf hIc hFc hIf hIf2 hIR hX6f hX63 hMf hMo hMf2 hxl2
                    go_wp2_with fail
                    go_roundw
                    case rel => exact ⟨i + 1, _, _, t9, by omega, by go_num, hFf, HMF.out, HST.out.set HDN.out, HSIG.out.set HFF.out rfl rfl rfl, hTf, by omega, HXF.out⟩
                    case measure => simp [intOf]; omega
        · have hin : i = nf := by omega
          subst hin
          have hd1 : decide ((i : Int) < (i : Int)) = false := by simp
          have hd2 : decide (i < i) = false := by simp
          clear hlt
          have R6 := HR5.out.onlyX (X := (fun i => i = g ∨ i = bF)) (by omega) hX6
          have p0 := P6.cell 0 _ rfl
          have p2 := P6.cell 2 _ rfl
          have c0 := R6.cell 0 _ rfl
          have c1 := R6.cell 1 _ rfl
          have c2 := R6.cell 2 _ rfl
          have cf6 := R6.free
          have hTf : TapeAt (((w6.setCell ⟨r0, 0, none⟩ (.slice S j cs)).setCell ⟨r0, 1, none⟩ (.slice (some ⟨bF, 0, none⟩) i cf)).setCell ⟨r0, 2, none⟩ (.slice N nn cn)) g t6 := ((hT6.setN (p := ⟨r0, 0, none⟩) hgr _).setN (p := ⟨r0, 1, none⟩) hgr _).setN (p := ⟨r0, 2, none⟩) hgr _
          have hX6f : OnlyX (fun q => q = r0) w6 (((w6.setCell ⟨r0, 0, none⟩ (.slice S j cs)).setCell ⟨r0, 1, none⟩ (.slice (some ⟨bF, 0, none⟩) i cf)).setCell ⟨r0, 2, none⟩ (.slice N nn cn)) := (((OnlyX.refl (X := fun q => q = r0)).set (p := ⟨r0, 0, none⟩) (fun _ => rfl) _).set (p := ⟨r0, 1, none⟩) (fun _ => rfl) _).set (p := ⟨r0, 2, none⟩) (fun _ => rfl) _
          have hXwf : OnlyX (fun q => q = g) w (((w6.setCell ⟨r0, 0, none⟩ (.slice S j cs)).setCell ⟨r0, 1, none⟩ (.slice (some ⟨bF, 0, none⟩) i cf)).setCell ⟨r0, 2, none⟩ (.slice N nn cn)) := (HXW.out.more hX6 (fun q hq h => by have := HR0'.out; rcases h with h | h; (· exact h); (· omega))).more hX6f (fun q hq h => by have := HR0'.out; omega)
          have hcl : ∀ (X : Nat → Prop) w2, (∀ q, X q → q < w.heap.size) → FarX X nn N → OnlyX X (((w6.setCell ⟨r0, 0, none⟩ (.slice S j cs)).setCell ⟨r0, 1, none⟩ (.slice (some ⟨bF, 0, none⟩) i cf)).setCell ⟨r0, 2, none⟩ (.slice N nn cn)) w2 → PrAt w2 S j cs (some ⟨bF, 0, none⟩) i cf N nn cn ⟨shs, fns', nats⟩ fcs' := fun X w2 hX hNo ho => by
            have h62 : OnlyX (fun q => q ≤ r0) w6 w2 := (hX6f.mono (fun q _ h => by show q ≤ r0; omega)).trans (ho.mono (fun q _ h => by have := hX q h; have := HR0'.out; show q ≤ r0; omega))
            have h63 : OnlyX (fun i => i ≤ r0 ∨ i = bF) w6 w2 := h62.mono (fun q _ h => Or.inl h)
            have h53 : OnlyX (fun i => i ≤ r0 ∨ i = bF) w5 w2 := (hX6.mono (fun q _ h => by rcases h with h | h; (· exact Or.inl (by omega)); (· exact Or.inr h))).trans h63
            have h5N : OnlyX (fun i => i = g ∨ i = bF ∨ i = r0) w5 (((w6.setCell ⟨r0, 0, none⟩ (.slice S j cs)).setCell ⟨r0, 1, none⟩ (.slice (some ⟨bF, 0, none⟩) i cf)).setCell ⟨r0, 2, none⟩ (.slice N nn cn)) := (hX6.mono (fun q _ h => by rcases h with h | h; (· exact Or.inl h); (· exact Or.inr (Or.inl h)))).trans (hX6f.mono (fun q _ h => Or.inr (Or.inr h)))
            obtain ⟨AF, cF, eF, hFR⟩ := Reads.own (own_onlyX hown6 h62 (fun q hq e => by have hq' : bF = q := Option.some.inj hq; omega))
            injection eF with x1 x2 x3
            subst x1 x3
            have hMw := HM6.out.onlyX h63
            exact ⟨HS5.out.onlyX HSF.out h53, hFR, ⟨hMw.1, fun a x f h1 h2 => by obtain ⟨a1, a2, a3, a4, a5, a6, a7⟩ := hMw.2 a x f h1 h2; exact ⟨a1, a2, a3, a5⟩⟩, (HN5.out.onlyX HNX3.out h5N).onlyX hNo ho⟩
          have hnl := HNN.out.length (f := intCells) (fun _ => rfl) (by omega)
          have hmk : MadeOk ⟨shs, fns', nats⟩ := ⟨by dsimp only; rw [HSL.out]; exact HJ3.out.1, by dsimp only; rw [HSL.out]; exact HJ3.out.2, HSOK.out, by dsimp only; rw [hlenn]; exact hnf1, by dsimp only; rw [hlenn]; exact hnf3, HSIG.out.heads HOK.out, fun f hf => by
            obtain ⟨a, ha⟩ := List.mem_iff_getElem?.1 hf
            have hal := (List.getElem?_eq_some_iff.1 ha).1
            dsimp only at hal ha
            exact (HM6.out.2 a _ f (List.getElem?_eq_getElem (by rw [hlenf, ← hlenn]; exact hal)) ha).ok, fun f hf => by
            obtain ⟨a, ha⟩ := List.mem_iff_getElem?.1 hf
            have hal := (List.getElem?_eq_some_iff.1 ha).1
            dsimp only at hal ha ⊢
            have hd := ((HST.out a _ f (List.getElem?_eq_getElem (by rw [hlenf, ← hlenn]; exact hal)) ha).1 (by omega)).sig HSIG.out
            rw [HSL.out]
            exact hd, by dsimp only; omega, HNATS.out⟩
          have HCL := Lib.hid hcl
          have HMK := Lib.hid hmk
          have HTF := Lib.hid hTf
          have HXF := Lib.hid hXwf
          clear hTf hX6f hXwf hcl hnl hmk hown6 hlenf hlenn P6 R6
          go_wp2_with fail
          refine bodyPost_ret (v := prV S j cs (some ⟨bF, 0, none⟩) i cf N nn cn) (by simp [results, Tryd.results40, go_sem, c0, c1, c2]) rfl ?_
          exact ⟨S, j, cs, some ⟨bF, 0, none⟩, i, cf, fcs', ⟨shs, fns', nats⟩, t6, rfl, HCL.out, rfl, HMK.out, by omega, HTF.out, HXF.out⟩

end Go.Proofs.YtnnchinpmnpfiaaDoor

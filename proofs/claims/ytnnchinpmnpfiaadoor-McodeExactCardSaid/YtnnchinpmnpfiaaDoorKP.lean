/- How made programs are changed: Warp. PRINTED BY A PROGRAM (mk_made10.py). -/
import Derived.Test.YtnnchinpmnpfiaaDoorKN
namespace Go.Proofs.YtnnchinpmnpfiaaDoor
open Go.ChangeShapes Go.WideShapes Go.RowKit Words

theorem tyRInsN : SlTy Tryd.prog 88 95 5 40 := SlTy.mk' (z := .agg #[.int .i64 0, .int .i64 0, .int .i64 0, .int .i64 0, .int .u64 0]) Tryd.underlying88 (by kernel_rfl) rfl (by omega)
theorem one_fc {l : List FC} : ∀ u ∈ l.flatMap fcCells, u.oneCell' = true := fun u hu => by
  obtain ⟨x, -, hx⟩ := List.mem_flatMap.1 hu
  simp only [fcCells, List.mem_cons, List.not_mem_nil, or_false] at hx
  rcases hx with rfl | rfl | rfl | rfl <;> rfl
theorem one_cc {l : List CC} : ∀ u ∈ l.flatMap ccCells, u.oneCell' = true := fun u hu => by
  obtain ⟨x, -, hx⟩ := List.mem_flatMap.1 hu
  simp only [ccCells, List.mem_cons, List.not_mem_nil, or_false] at hx
  rcases hx with rfl | rfl <;> rfl
theorem one_ins {l : List NI} : ∀ u ∈ l.flatMap insCells, u.oneCell' = true := fun u hu => by
  obtain ⟨x, -, hx⟩ := List.mem_flatMap.1 hu
  simp only [insCells, List.mem_cons, List.not_mem_nil, or_false] at hx
  rcases hx with rfl | rfl | rfl | rfl | rfl <;> rfl
theorem one_int {l : List Int} : ∀ u ∈ l.flatMap intCells, u.oneCell' = true := fun u hu => by
  obtain ⟨x, -, hx⟩ := List.mem_flatMap.1 hu
  simp only [intCells, List.mem_cons, List.not_mem_nil, or_false] at hx
  rcases hx with rfl; rfl
theorem own_cutM {w : World} {base e s n c m : Nat} {A : Option Addr} {xs : List Value} (h : w.ownsRow base e s (.slice A n c) n xs) (hm : m ≤ n) : w.ownsRow base e s (.slice A m c) m (xs.take (m * s)) := by
  have hms : m * s ≤ n * s := Nat.mul_le_mul_right s hm
  refine ⟨by rw [List.length_take, h.1]; omega, ?_⟩
  rcases h.2 with ⟨hv, hn⟩ | ⟨g, cap, cur, hv, hb, hg, hnc, hcap, hsz, ht⟩
  · injection hv with h1 h2 h3
    subst h1 h3
    left
    obtain rfl : m = 0 := by omega
    exact ⟨rfl, rfl⟩
  · injection hv with h1 h2 h3
    subst h1 h3
    right
    exact ⟨g, c, cur, rfl, hb, hg, by omega, hcap, hsz, by rw [← ht, List.take_take]; congr 1; omega⟩
theorem flat_take {α : Type} {f : α → List Value} {s : Nat} (hs : ∀ a, (f a).length = s) : ∀ (l : List α) (k : Nat), (l.flatMap f).take (k * s) = (l.take k).flatMap f
  | [], k => by simp
  | a :: l, 0 => by simp
  | a :: l, k + 1 => by
    rw [List.flatMap_cons, List.take_succ_cons, List.flatMap_cons, ← flat_take hs l k, List.take_append, hs, List.take_of_length_le (by rw [hs, Nat.succ_mul]; omega)]
    congr 2
    rw [Nat.succ_mul]; omega
theorem fcset1 {fcs : List FC} {i : Nat} {x : FC} {A : Option Addr} {n c : Nat} (h : fcs[i]? = some x) : (fcs.flatMap fcCells).set (i * 4 + 1) (.slice A n c) = (fcs.set i ⟨x.p, A, n, c, x.r, x.B, x.m, x.e⟩).flatMap fcCells :=
  flat_set fcCells_len h (by omega) rfl
theorem fcset0 {fcs : List FC} {i : Nat} {x : FC} {p : Int} (h : fcs[i]? = some x) : (fcs.flatMap fcCells).set (i * 4 + 0) (.int .i64 p) = (fcs.set i ⟨p, x.A, x.n, x.c, x.r, x.B, x.m, x.e⟩).flatMap fcCells :=
  flat_set fcCells_len h (by omega) rfl
theorem own_nb {w : World} {b1 b2 s1 s2 n1 n2 g c : Nat} {e1 e2 : TypeId} {v1 : Value} {xs1 xs2 : List Value} (h1 : w.ownsRow b1 e1 s1 v1 n1 xs1) (h2 : w.ownsRow b2 e2 s2 (.slice (some ⟨g, 0, none⟩) n2 c) n2 xs2) (hne : e1 ≠ e2) : ∀ i, v1.ownBlock = some i → ¬ i = g := fun i hi e => by
  rcases own_apart h1 h2 hne with h | h
  · rw [h] at hi; cases hi
  · exact h (by rw [hi, e]; rfl)
theorem tape_onlyX {w w' : World} {g a : Nat} {X : Nat → Prop} (h : TapeAt w g a) (ho : OnlyX X w w') (hx : ∀ i, i ≤ g → ¬ X i) : TapeAt w' g a := by
  obtain ⟨A, n, c, l, hB, hr⟩ := h
  have hl := hB.lt
  exact ⟨A, n, c, l, hB.onlyX (hx g (Nat.le_refl _)) ho, hr.keep fun b o hb => World.cell?_of_block (a := ⟨b, o, none⟩) (ho.block b (by omega) (hx b (by omega)))⟩
theorem below_onlyX {w0 w w' : World} {X : Nat → Prop} (hb : Below w0.heap.size w0 w) (ho : OnlyX X w w') (hx : ∀ i, i < w0.heap.size → ¬ X i) : Below w0.heap.size w0 w' :=
  hb.trans ⟨ho.os, ho.tape, ho.output, ho.size, fun i hi => ho.block i (by have := hb.size; omega) (hx i hi)⟩
/-- what stands behind the switch of Warp -/
def WarpJ (w0 : World) (bb : Nat) (wx : World) : Prop :=
  ∃ (S : Option Addr) (ns cs : Nat) (F : Option Addr) (nf cf : Nat) (N : Option Addr) (nn cn : Nat) (M : Option Addr) (mm cm : Nat) (fcs : List FC) (P : Prg) (v0 v1 v2 : Value), Blk wx bb 67 #[v0, v1, v2, .slice M mm cm] ∧ Blk wx (bb + 1) 67 #[.slice none 0 0, .slice none 0 0, .slice none 0 0, .slice none 0 0] ∧ Blk wx (bb + 1 + 1) 26 #[.slice S ns cs, .slice F nf cf, .slice N nn cn] ∧
    (∀ w2, OnlyX (fun i => i = bb ∨ i = bb + 1) wx w2 → PrAt w2 S ns cs F nf cf N nn cn P fcs) ∧ P.ok ∧ Below w0.heap.size w0 wx
/-- an image comes back that has been changed -/
def RetWarp (w0 : World) (e : Ending) (w' : World) : Prop :=
  ∃ (S : Option Addr) (ns cs : Nat) (F : Option Addr) (nf cf : Nat) (N : Option Addr) (nn cn : Nat) (M : Option Addr) (m cm : Nat) (fcs : List FC) (P : Prg), e = .returned (imgV S ns cs F nf cf N nn cn M m cm) ∧ PrAt w' S ns cs F nf cf N nn cn P fcs ∧ P.ok ∧ Below w0.heap.size w0 w'
theorem MadeOk.fnok {P : Prg} (h : MadeOk P) : ∀ f ∈ P.fns, f.ok := fun f hf => by
  have h1 := h.fok f hf
  have h2 := h.fns f hf
  exact ⟨by unfold I64; have := h1.p0; have := h1.p2; omega, by unfold I64; have := h1.r12; omega, by have := h1.n7; omega, by have := h2.n26; omega, fun x hx => (h2.each x hx).2⟩
theorem HdOk.ok {h : HD} (hh : HdOk h) : h.ok := by
  obtain ⟨h1, h2, h3, h4, h5⟩ := hh
  have hl : h.len = 0 ∨ h.len = 1 ∨ h.len = 2 ∨ h.len = 3 := by omega
  refine ⟨by unfold I64; omega, by unfold I64; omega, h4, ?_⟩
  rcases hl with e | e | e | e <;> (rw [e] at h5; simp at h5; omega)
theorem MadeOk.ok {P : Prg} (h : MadeOk P) : P.ok := ⟨by have := h.ns3; omega, by have := h.nf3; omega, by have := h.nn2; omega, fun x hx => (h.shs x hx).ok, h.fnok⟩
theorem set_mem {α : Type} {l : List α} {k : Nat} {a b : α} (h : b ∈ l.set k a) : b = a ∨ b ∈ l := by
  rcases List.mem_or_eq_of_mem_set h with h | h
  · exact Or.inr h
  · exact Or.inl h
/-- what stands behind the switch, out of the rows -/
theorem warpJ_of {w0 wx : World} {bb : Nat} {S : Option Addr} {ns cs : Nat} {F : Option Addr} {nf cf : Nat} {N : Option Addr} {nn cn : Nat} {fcs : List FC} {P : Prg} (hP : PrAt w0 S ns cs F nf cf N nn cn P fcs) (hM : MadeOk P) (hb : Below w0.heap.size w0 wx) (hbb : w0.heap.size ≤ bb)
    {bF cF : Nat} {M : Option Addr} {mm cm : Nat} {v0 v1 v2 : Value} (hB2 : Blk wx bb 67 #[v0, v1, v2, .slice M mm cm]) (hR4 : Blk wx (bb + 1) 67 #[.slice none 0 0, .slice none 0 0, .slice none 0 0, .slice none 0 0]) {N' : Option Addr} {nn' cn' : Nat} {nats' : List Int} (hBP : Blk wx (bb + 1 + 1) 26 #[.slice S ns cs, .slice (some ⟨bF, 0, none⟩) nf cF, .slice N' nn' cn'])
    {k : Nat} (hk : k < nf) {x : FC} {f : Fn} (hF : wx.ownsRow (bb + 3) 44 4 (.slice (some ⟨bF, 0, none⟩) nf cF) nf ((fcs.set k x).flatMap fcCells)) (hx : FnAt wx x f) (hAf : ∀ b off, 0 < x.n → x.A = some ⟨b, off, none⟩ → bb + 1 < b) (hBf : ∀ b off, 0 < x.m → x.B = some ⟨b, off, none⟩ → bb + 1 < b) (hf : f.ok)
    (hN : Reads wx wx.heap.size 1 N' nn' cn' (nats'.flatMap intCells)) (hNf : ∀ b off, 0 < nn' → N' = some ⟨b, off, none⟩ → b < w0.heap.size ∨ bb + 1 < b) (hnn : nn' ≤ 1000) : WarpJ w0 bb wx := by
  refine ⟨S, ns, cs, some ⟨bF, 0, none⟩, nf, cF, N', nn', cn', M, mm, cm, fcs.set k x, ⟨P.shs, P.fns.set k f, nats'⟩, v0, v1, v2, hB2, hR4, hBP, fun w2 ho => ?_, ?_, hb⟩
  · have h02 : Below w0.heap.size w0 w2 := hb.trans ⟨ho.os, ho.tape, ho.output, ho.size, fun i hi => ho.block i (by have := hb.size; omega) (by omega)⟩
    have hP2 := hP.below h02
    obtain ⟨AF, cF', eF, hFR⟩ := Reads.own (own_onlyX hF ho (fun q hq e => by have := (hF.lt q hq).1; rcases e with e | e <;> omega))
    injection eF with x1 x2 x3
    subst x1 x3
    refine ⟨hP2.shs, hFR, ⟨by simp [hP.each.1], fun i y h h1 h2 => ?_⟩, hN.onlyX (fun b off hn e hx => by have := hNf b off hn e; rcases hx with hx | hx <;> omega) ho⟩
    rcases set_case h1 with ⟨rfl, rfl⟩ | ⟨hi, h1⟩
    · rcases set_case h2 with ⟨-, rfl⟩ | ⟨hi, -⟩
      · exact ⟨hx.p, hx.r, hx.locs.onlyX (fun b off hn e hx => by have := hAf b off hn e; rcases hx with hx | hx <;> omega) ho, hx.ins.onlyX (fun b off hn e hx => by have := hBf b off hn e; rcases hx with hx | hx <;> omega) ho⟩
      · exact absurd rfl hi
    · rcases set_case h2 with ⟨rfl, -⟩ | ⟨-, h2⟩
      · exact absurd rfl hi
      · exact hP2.each.2 i y h h1 h2
  · have hl := hN.length (f := intCells) (fun _ => rfl) (by omega)
    exact ⟨by have := hM.ns3; dsimp only; omega, by have := hM.nf3; dsimp only; rw [List.length_set]; omega, by dsimp only; omega, fun y hy => (hM.shs y hy).ok, fun y hy => by
      rcases set_mem hy with rfl | hy
      · exact hf
      · exact hM.fnok y hy⟩
set_option linter.unusedSimpArgs false in
set_option linter.unusedVariables false in
set_option maxRecDepth 100000 in
set_option maxHeartbeats 20000000 in
theorem warp_any (g t : Nat) (S : Option Addr) (ns cs : Nat) (F : Option Addr) (nf cf : Nat) (N : Option Addr) (nn cn : Nat) (M : Option Addr) (mm cm : Nat) (fcs : List FC) (P : Prg) (ccs : List CC) (w0 w : World) (hT : TapeAt w g t) (ht : t ≤ 500000) (hb0 : Below w0.heap.size w0 w) (hg0 : w0.heap.size ≤ g)
    (hP : PrAt w0 S ns cs F nf cf N nn cn P fcs) (hK : MadeOk P) (hMR : Reads w0 w0.heap.size 2 M mm cm (ccs.flatMap ccCells)) (hC : CodesAt w0 ccs) (hmm : mm ≤ 2) : Calls Tryd.prog 21 #[imgV S ns cs F nf cf N nn cn M mm cm, .pointer (some ⟨g, 0, none⟩)] w (RetWarp w0) := by
  have hgl := hT.lt
  have HNX := Lib.hid (show ∀ wq tq (k : Int), TapeAt wq g tq → tq ≤ 900000 → k ≤ 1000 → Calls Tryd.prog 39 #[.pointer (some ⟨g, 0, none⟩), .int .i64 k] wq (RetNext wq g tq k) from fun wq tq k hq h9 hk => next_any g tq k wq hq (by omega) (by omega))
  have HG1 := Lib.hid (show ∀ (a b : World), a.grownBy b (some g) → OnlyX (fun i => i = g) a b from fun a b h => (OnlyX.grown h).mono (fun i _ e => by injection e with e; exact e.symm))
  have hlf := hP.fns.length fcCells_len (by omega)
  have hlfs : P.fns.length = nf := by have := hP.each.1; omega
  have hnf1 : 1 ≤ nf := by have := hK.nf1; omega
  have hnf3 : nf ≤ 3 := by have := hK.nf3; omega
  have hlm := hMR.length ccCells_len (by omega)
  have HP := Lib.hid hP
  have HK := Lib.hid hK
  have HMR := Lib.hid hMR
  have HC := Lib.hid hC
  have HLF := Lib.hid hlf
  have HLFS := Lib.hid hlfs
  have HLM := Lib.hid hlm
  have hba : Below w.heap.size w (((w.alloc (.cells #[.slice S ns cs, .slice F nf cf, .slice N nn cn, .slice M mm cm] 67)).alloc (.cells #[.slice none 0 0, .slice none 0 0, .slice none 0 0, .slice none 0 0] 67)).alloc (.cells #[.slice S ns cs, .slice F nf cf, .slice N nn cn] 26)) := keep_alloc (keep_alloc (keep_alloc (Below.refl _ _) _) _) _
  have B2 := ((Blk.new w #[.slice S ns cs, .slice F nf cf, .slice N nn cn, .slice M mm cm] 67).alloc (.cells #[.slice none 0 0, .slice none 0 0, .slice none 0 0, .slice none 0 0] 67)).alloc (.cells #[.slice S ns cs, .slice F nf cf, .slice N nn cn] 26)
  have R4 := (Blk.newAt (w.alloc (.cells #[.slice S ns cs, .slice F nf cf, .slice N nn cn, .slice M mm cm] 67)) #[.slice none 0 0, .slice none 0 0, .slice none 0 0, .slice none 0 0] 67 (w.heap.size + 1) (by simp)).alloc (.cells #[.slice S ns cs, .slice F nf cf, .slice N nn cn] 26)
  have BP := Blk.newAt ((w.alloc (.cells #[.slice S ns cs, .slice F nf cf, .slice N nn cn, .slice M mm cm] 67)).alloc (.cells #[.slice none 0 0, .slice none 0 0, .slice none 0 0, .slice none 0 0] 67)) #[.slice S ns cs, .slice F nf cf, .slice N nn cn] 26 (w.heap.size + 1 + 1) (by simp)
  have hT1 := hT.below hba
  have hb1 : Below w0.heap.size w0 (((w.alloc (.cells #[.slice S ns cs, .slice F nf cf, .slice N nn cn, .slice M mm cm] 67)).alloc (.cells #[.slice none 0 0, .slice none 0 0, .slice none 0 0, .slice none 0 0] 67)).alloc (.cells #[.slice S ns cs, .slice F nf cf, .slice N nn cn] 26)) := hb0.trans (hba.mono hb0.size)
  have hgb : g < w.heap.size := hgl
  clear hP hK hMR hC hlf hlfs hlm hT hb0 hba
  go_enter Tryd.func21, Tryd.ntmps21
  go_upto_region 2 with fail
  obtain ⟨w1, hw1⟩ : ∃ w1, ((w.alloc (.cells #[.slice S ns cs, .slice F nf cf, .slice N nn cn, .slice M mm cm] 67)).alloc (.cells #[.slice none 0 0, .slice none 0 0, .slice none 0 0, .slice none 0 0] 67)).alloc (.cells #[.slice S ns cs, .slice F nf cf, .slice N nn cn] 26) = w1 := ⟨_, rfl⟩
  have hs1 : w1.heap.size = w.heap.size + 3 := by rw [← hw1]; simp
  rw [hw1] at B2 R4 BP hT1 hb1 ⊢
  obtain ⟨bb, hbb⟩ : ∃ bb, w.heap.size = bb := ⟨_, rfl⟩
  rw [hbb] at B2 R4 BP hs1 hgb ⊢
  have h0b : w0.heap.size ≤ bb := by omega
  clear hw1 hbb hgl
  have hsz : bb + 3 ≤ w1.heap.size := by omega
  have c1 := BP.cell 1 _ rfl
  clear hs1
  have hm2 : (w1.alloc (.cells #[] 44)).ownsRow (bb + 3) 44 4 (.slice (some ⟨w1.heap.size, 0, none⟩) 0 0) 0 [] := World.ownsRow_made w1 #[] 0 (by omega) (by decide) rfl
  have hr2 := (HP.out.fns.below hb1 |>.more hb1.size).belowU (keep_alloc (Below.refl _ _) (.cells #[] 44))
  have hz2 : bb + 3 ≤ (w1.alloc (.cells #[] 44)).heap.size := by simp; omega
  have p2 : 0 + nf ≤ maxLen := by unfold maxLen; omega
  have q2 : (0 + nf) * 64 ≤ 140737488355328 := by omega
  have c1a := (BP.alloc (.cells #[] 44)).cell 1 _ rfl
  go_upto_region 3 with (at_builtin; refine wpList_appB rfl _ _ _ (by rfl) tyRFns (by rfl) hm2 (by rfl) hr2 one_fc p2 q2 hz2 ?_; intro v' w2 hown2 hg2 hbk2; have hX2 : OnlyX (fun i => i = w1.heap.size) (w1.alloc (.cells #[] 44)) w2 := (OnlyX.grown hg2).mono (fun i _ hi => (Option.some.inj hi).symm); have hD2 := (BP.alloc (.cells #[] 44)).onlyX (X := fun i => i = w1.heap.size) (by omega) hX2; have c2 := hD2.cell 1 _ rfl; have cf2 := hD2.free; simp only [Nat.zero_add, List.nil_append] at hown2; obtain ⟨A2, cF, rfl, -⟩ := Reads.own hown2)
  have hX : OnlyX (fun i => i = bb + 1 + 1) w1 (w2.setCell ⟨bb + 1 + 1, 1, none⟩ (.slice A2 nf cF)) := ((OnlyX.refl (X := (fun i => i = bb + 1 + 1))).alloc (.cells #[] 44) |>.more hX2 (fun i hi e => by omega)).set (p := ⟨bb + 1 + 1, 1, none⟩) (fun _ => rfl) _
  have NEW := hD2.set 1 (.slice A2 nf cF)
  have hF := ownsRow_setCell_below hown2 (a := ⟨bb + 1 + 1, 1, none⟩) (by show bb + 1 + 1 < bb + 3; omega) (.slice A2 nf cF)
  clear hD2 c2 cf2 c1a c1
  obtain ⟨v2, hv2⟩ : ∃ v2, w2.setCell ⟨bb + 1 + 1, 1, none⟩ (.slice A2 nf cF) = v2 := ⟨_, rfl⟩
  rw [hv2] at hX NEW hF ⊢
  obtain ⟨AF, hA2⟩ : ∃ A3, A2 = A3 := ⟨_, rfl⟩
  rw [hA2] at NEW hF ⊢
  have B2 := B2.onlyX (X := (fun i => i = bb + 1 + 1)) (by omega) hX
  have R4 := R4.onlyX (X := (fun i => i = bb + 1 + 1)) (by omega) hX
  have hT1 := tape_onlyX hT1 hX (fun i hi e => by omega)
  have hb1 := below_onlyX hb1 hX (fun i hi e => by omega)
  have hsz : bb + 3 ≤ v2.heap.size := by have := hX.size; omega
  clear hv2 hA2 hown2 hg2 hbk2 hm2 hr2 hz2 p2 q2 hX hX2
  have BP : Blk v2 (bb + 1 + 1) 26 #[.slice S ns cs, .slice AF nf cF, .slice N nn cn] := NEW
  clear NEW
  have c1 := B2.cell 3 _ rfl
  have hm2 : (v2.alloc (.cells #[] 90)).ownsRow (bb + 3) 90 2 (.slice (some ⟨v2.heap.size, 0, none⟩) 0 0) 0 [] := World.ownsRow_made v2 #[] 0 (by omega) (by decide) rfl
  have hr2 := (HMR.out.below hb1 |>.more hb1.size).belowU (keep_alloc (Below.refl _ _) (.cells #[] 90))
  have hz2 : bb + 3 ≤ (v2.alloc (.cells #[] 90)).heap.size := by simp; omega
  have p2 : 0 + mm ≤ maxLen := by unfold maxLen; omega
  have q2 : (0 + mm) * 32 ≤ 140737488355328 := by omega
  have c1a := (B2.alloc (.cells #[] 90)).cell 3 _ rfl
  go_upto_region 4 with (at_builtin; refine wpList_appB rfl _ _ _ (by rfl) tyRCodes (by rfl) hm2 (by rfl) hr2 one_cc p2 q2 hz2 ?_; intro v' w2 hown2 hg2 hbk2; have hX2 : OnlyX (fun i => i = v2.heap.size) (v2.alloc (.cells #[] 90)) w2 := (OnlyX.grown hg2).mono (fun i _ hi => (Option.some.inj hi).symm); have hD2 := (B2.alloc (.cells #[] 90)).onlyX (X := fun i => i = v2.heap.size) (by omega) hX2; have c2 := hD2.cell 3 _ rfl; have cf2 := hD2.free; simp only [Nat.zero_add, List.nil_append] at hown2; obtain ⟨A2, cM, rfl, -⟩ := Reads.own hown2)
  have hX : OnlyX (fun i => i = bb) v2 (w2.setCell ⟨bb, 3, none⟩ (.slice A2 mm cM)) := ((OnlyX.refl (X := (fun i => i = bb))).alloc (.cells #[] 90) |>.more hX2 (fun i hi e => by omega)).set (p := ⟨bb, 3, none⟩) (fun _ => rfl) _
  have NEW := hD2.set 3 (.slice A2 mm cM)
  have hM := ownsRow_setCell_below hown2 (a := ⟨bb, 3, none⟩) (by show bb < bb + 3; omega) (.slice A2 mm cM)
  clear hD2 c2 cf2 c1a c1
  obtain ⟨v3, hv2⟩ : ∃ v3, w2.setCell ⟨bb, 3, none⟩ (.slice A2 mm cM) = v3 := ⟨_, rfl⟩
  rw [hv2] at hX NEW hM ⊢
  obtain ⟨AM, hA2⟩ : ∃ A3, A2 = A3 := ⟨_, rfl⟩
  rw [hA2] at NEW hM ⊢
  have BP := BP.onlyX (X := (fun i => i = bb)) (by omega) hX
  have R4 := R4.onlyX (X := (fun i => i = bb)) (by omega) hX
  have hT1 := tape_onlyX hT1 hX (fun i hi e => by omega)
  have hb1 := below_onlyX hb1 hX (fun i hi e => by omega)
  have hF := own_onlyX hF hX (fun i hi e => by have := (hF.lt i hi).1; omega)
  have hsz : bb + 3 ≤ v3.heap.size := by have := hX.size; omega
  clear hv2 hA2 hown2 hg2 hbk2 hm2 hr2 hz2 p2 q2 hX hX2
  have B2 : Blk v3 bb 67 #[.slice S ns cs, .slice F nf cf, .slice N nn cn, .slice AM mm cM] := NEW
  clear NEW
  have c1 := BP.cell 1 _ rfl
  go_wp2_with fail
  clear c1
  refine (HNX.out _ _ (nf : Int) hT1 (by omega) (by omega)).mono ?_
  rintro e v4 ⟨r4, rfl, r40, r41, t4, ht4, hT2, hg⟩
  have hX := HG1.out _ _ hg
  have B2 := B2.onlyX (X := (fun i => i = g)) (by omega) hX
  have BP := BP.onlyX (X := (fun i => i = g)) (by omega) hX
  have R4 := R4.onlyX (X := (fun i => i = g)) (by omega) hX
  have hb1 := below_onlyX hb1 hX (fun i hi e => by omega)
  have hF := own_onlyX hF hX (fun i hi e => by have := (hF.lt i hi).1; omega)
  have hM := own_onlyX hM hX (fun i hi e => by have := (hM.lt i hi).1; omega)
  have hT1 := hT2
  have hsz : bb + 3 ≤ v4.heap.size := by have := hX.size; omega
  clear hT2 hg hX
  obtain ⟨k, rfl⟩ : ∃ k : Nat, r4 = k := ⟨r4.toNat, by omega⟩
  have hk : k < nf := by omega
  have k0 : (0 : Int) ≤ (k : Int) := by omega
  have k1 : (k : Int) < (nf : Int) := by omega
  obtain ⟨bF, cap, cur, hv, hge, -, -, -, -, -⟩ := own_block hF (by omega) (by omega)
  injection hv with hv1 hv2 hv3
  subst hv1
  clear hv2 hv3 r40 r41
  obtain ⟨x, hx⟩ : ∃ x, fcs[k]? = some x := ⟨_, List.getElem?_eq_getElem (by have := HLF.out; omega)⟩
  obtain ⟨f, hf⟩ : ∃ f, P.fns[k]? = some f := ⟨_, List.getElem?_eq_getElem (by have := HLFS.out; omega)⟩
  have hat := HP.out.each.2 k x f hx hf
  have hfo := HK.out.fok f (List.mem_of_getElem? hf)
  have hfd := HK.out.fns f (List.mem_of_getElem? hf)
  have hln := hat.locs.length (f := intCells) (fun _ => rfl) (by omega)
  have hli := hat.ins.length insCells_len (by omega)
  obtain ⟨p, A, n, c, r, B, m, e⟩ := x
  obtain ⟨fp, locs, fr, ins⟩ := f
  obtain rfl : p = fp := hat.p
  obtain rfl : r = fr := hat.r
  dsimp only at hln hli
  have hn4 : 4 ≤ n ∧ n ≤ 7 := by have h1 := hfo.n4; have h2 := hfo.n7; dsimp only at h1 h2; omega
  have hm1 : 1 ≤ m ∧ m ≤ 26 := by have h1 := hfd.n1; have h2 := hfd.n26; dsimp only at h1 h2; omega
  have HAT := Lib.hid hat
  have HFO := Lib.hid (HK.out.fnok _ (List.mem_of_getElem? hf))
  have HX := Lib.hid hx
  have HFF := Lib.hid hf
  have HLN := Lib.hid hln
  have HLI := Lib.hid hli
  have c1 := BP.cell 1 _ rfl
  have f3 : v4.cell? ⟨bF, k * 4 + 3, none⟩ = some (.slice B m e) := own_at (j := 3) hF fcCells_len HX.out rfl
  clear hat hfo hfd hx hf hln hli
  go_upto_region 6 with fail
  clear c1
  have hm2 : (v4.alloc (.cells #[] 55)).ownsRow (bb + 3) 55 5 (.slice (some ⟨v4.heap.size, 0, none⟩) 0 0) 0 [] := World.ownsRow_made v4 #[] 0 (by omega) (by decide) rfl
  have hr2 := (HAT.out.ins.below hb1 |>.more hb1.size).belowU (keep_alloc (Below.refl _ _) (.cells #[] 55))
  have hz2 : bb + 3 ≤ (v4.alloc (.cells #[] 55)).heap.size := by simp; omega
  have p2 : 0 + m ≤ maxLen := by unfold maxLen; omega
  have q2 : (0 + m) * 40 ≤ 140737488355328 := by omega
  have f3a : (v4.alloc (.cells #[] 55)).cell? ⟨bF, k * 4 + 3, none⟩ = some (.slice B m e) := own_at (j := 3) (own_keep hF (keep_alloc (Below.refl _ _) _)) fcCells_len HX.out rfl
  go_upto_region 7 with (at_builtin; refine wpList_appB rfl _ _ _ (by rfl) tyRInsM (by rfl) hm2 (by rfl) hr2 one_ins p2 q2 hz2 ?_; intro v' w2 hown2 hg2 hbk2; have hX2 : OnlyX (fun i => i = v4.heap.size) (v4.alloc (.cells #[] 55)) w2 := (OnlyX.grown hg2).mono (fun i _ hi => (Option.some.inj hi).symm); have hD2 := own_onlyX (own_keep hF (keep_alloc (Below.refl _ _) (.cells #[] 55))) hX2 (fun i hi e => by have := (hF.lt i hi).2; omega); have c2 : w2.cell? ⟨bF, k * 4 + 3, none⟩ = some (.slice B m e) := own_at (j := 3) hD2 fcCells_len HX.out rfl; have cf2 := own_free hD2; simp only [Nat.zero_add, List.nil_append] at hown2; obtain ⟨A2, cI, rfl, -⟩ := Reads.own hown2)
  have hX : OnlyX (fun i => i = bF) v4 (w2.setCell ⟨bF, k * 4 + 3, none⟩ (.slice A2 m cI)) := ((OnlyX.refl (X := (fun i => i = bF))).alloc (.cells #[] 55) |>.more hX2 (fun i hi e => by omega)).set (p := ⟨bF, k * 4 + 3, none⟩) (fun _ => rfl) _
  have NEW := (hD2.stored (k * 4 + 3) (.slice A2 m cI)).1
  have hI := own_store hown2 hD2 (by decide) (k * 4 + 3) (.slice A2 m cI)
  clear hD2 c2 cf2 f3a f3
  obtain ⟨v6, hv2⟩ : ∃ v6, w2.setCell ⟨bF, k * 4 + 3, none⟩ (.slice A2 m cI) = v6 := ⟨_, rfl⟩
  rw [hv2] at hX NEW hI ⊢
  obtain ⟨BI, hA2⟩ : ∃ A3, A2 = A3 := ⟨_, rfl⟩
  rw [hA2] at NEW hI ⊢
  have BP := BP.onlyX (X := (fun i => i = bF)) (by omega) hX
  have B2 := B2.onlyX (X := (fun i => i = bF)) (by omega) hX
  have R4 := R4.onlyX (X := (fun i => i = bF)) (by omega) hX
  have hT1 := tape_onlyX hT1 hX (fun i hi e => by omega)
  have hb1 := below_onlyX hb1 hX (fun i hi e => by omega)
  have hM := own_onlyX hM hX (own_nb hM hF (by decide))
  have hsz : bb + 3 ≤ v6.heap.size := by have := hX.size; omega
  clear hv2 hA2 hown2 hg2 hbk2 hm2 hr2 hz2 p2 q2 hX hX2
  rw [fcset HX.out] at NEW
  dsimp only at NEW
  have hF := NEW
  have hyx : (fcs.set k ⟨p, A, n, c, r, BI, m, cI⟩)[k]? = some ⟨p, A, n, c, r, BI, m, cI⟩ := by rw [List.getElem?_set_self (List.getElem?_eq_some_iff.1 HX.out).1]
  have HYX := Lib.hid hyx
  have f1 : v6.cell? ⟨bF, k * 4 + 1, none⟩ = some (.slice A n c) := own_at (j := 1) hF fcCells_len HYX.out rfl
  clear NEW hyx
  have hm2 : (v6.alloc (.cells #[] 3)).ownsRow (bb + 3) 3 1 (.slice (some ⟨v6.heap.size, 0, none⟩) 0 0) 0 [] := World.ownsRow_made v6 #[] 0 (by omega) (by decide) rfl
  have hr2 := (HAT.out.locs.below hb1 |>.more hb1.size).belowU (keep_alloc (Below.refl _ _) (.cells #[] 3))
  have hz2 : bb + 3 ≤ (v6.alloc (.cells #[] 3)).heap.size := by simp; omega
  have p2 : 0 + n ≤ maxLen := by unfold maxLen; omega
  have q2 : (0 + n) * 8 ≤ 140737488355328 := by omega
  have f1a : (v6.alloc (.cells #[] 3)).cell? ⟨bF, k * 4 + 1, none⟩ = some (.slice A n c) := own_at (j := 1) (own_keep hF (keep_alloc (Below.refl _ _) _)) fcCells_len HYX.out rfl
  go_upto_region 8 with (at_builtin; refine wpList_appB rfl _ _ _ (by rfl) tyInts (by rfl) hm2 (by rfl) hr2 one_int p2 q2 hz2 ?_; intro v' w2 hown2 hg2 hbk2; have hX2 : OnlyX (fun i => i = v6.heap.size) (v6.alloc (.cells #[] 3)) w2 := (OnlyX.grown hg2).mono (fun i _ hi => (Option.some.inj hi).symm); have hD2 := own_onlyX (own_keep hF (keep_alloc (Below.refl _ _) (.cells #[] 3))) hX2 (fun i hi e => by have := (hF.lt i hi).2; omega); have c2 : w2.cell? ⟨bF, k * 4 + 1, none⟩ = some (.slice A n c) := own_at (j := 1) hD2 fcCells_len HYX.out rfl; have cf2 := own_free hD2; simp only [Nat.zero_add, List.nil_append] at hown2; obtain ⟨A2, cL, rfl, -⟩ := Reads.own hown2)
  have hX : OnlyX (fun i => i = bF) v6 (w2.setCell ⟨bF, k * 4 + 1, none⟩ (.slice A2 n cL)) := ((OnlyX.refl (X := (fun i => i = bF))).alloc (.cells #[] 3) |>.more hX2 (fun i hi e => by omega)).set (p := ⟨bF, k * 4 + 1, none⟩) (fun _ => rfl) _
  have NEW := (hD2.stored (k * 4 + 1) (.slice A2 n cL)).1
  have hL := own_store hown2 hD2 (by decide) (k * 4 + 1) (.slice A2 n cL)
  clear hD2 c2 cf2 f1a f1
  obtain ⟨v7, hv2⟩ : ∃ v7, w2.setCell ⟨bF, k * 4 + 1, none⟩ (.slice A2 n cL) = v7 := ⟨_, rfl⟩
  rw [hv2] at hX NEW hL ⊢
  obtain ⟨AL, hA2⟩ : ∃ A3, A2 = A3 := ⟨_, rfl⟩
  rw [hA2] at NEW hL ⊢
  have BP := BP.onlyX (X := (fun i => i = bF)) (by omega) hX
  have B2 := B2.onlyX (X := (fun i => i = bF)) (by omega) hX
  have R4 := R4.onlyX (X := (fun i => i = bF)) (by omega) hX
  have hT1 := tape_onlyX hT1 hX (fun i hi e => by omega)
  have hb1 := below_onlyX hb1 hX (fun i hi e => by omega)
  have hM := own_onlyX hM hX (own_nb hM hF (by decide))
  have hI := own_onlyX hI hX (own_nb hI hF (by decide))
  have hsz : bb + 3 ≤ v7.heap.size := by have := hX.size; omega
  clear hv2 hA2 hown2 hg2 hbk2 hm2 hr2 hz2 p2 q2 hX hX2
  rw [fcset1 HYX.out, List.set_set] at NEW
  dsimp only at NEW
  have hF := NEW
  have HYZ := Lib.hid (show (fcs.set k ⟨p, AL, n, cL, r, BI, m, cI⟩)[k]? = some ⟨p, AL, n, cL, r, BI, m, cI⟩ from by rw [List.getElem?_set_self (List.getElem?_eq_some_iff.1 HX.out).1])
  clear NEW
  go_wp2_with fail
  refine (HNX.out _ _ 9 hT1 (by omega) (by omega)).mono ?_
  rintro e v8 ⟨r8, rfl, r80, r81, t8, ht8, hT2, hg⟩
  have hX := HG1.out _ _ hg
  have B2 := B2.onlyX (X := (fun i => i = g)) (by omega) hX
  have BP := BP.onlyX (X := (fun i => i = g)) (by omega) hX
  have R4 := R4.onlyX (X := (fun i => i = g)) (by omega) hX
  have hb1 := below_onlyX hb1 hX (fun i hi e => by omega)
  have hF := own_onlyX hF hX (fun i hi e => by have := (hF.lt i hi).1; omega)
  have hM := own_onlyX hM hX (fun i hi e => by have := (hM.lt i hi).1; omega)
  have hI := own_onlyX hI hX (fun i hi e => by have := (hI.lt i hi).1; omega)
  have hL := own_onlyX hL hX (fun i hi e => by have := (hL.lt i hi).1; omega)
  have hT1 := hT2
  have hsz : bb + 3 ≤ v8.heap.size := by have := hX.size; omega
  clear hT2 hg hX
  have r82 : r8 < 9 := by omega
  have hnats := HP.out.nats.length (f := intCells) (fun _ => rfl) (by omega)
  have hnn2 : nn ≤ 2 := by have := HK.out.nn2; omega
  have h8 : r8 = 0 ∨ r8 = 1 ∨ r8 = 2 ∨ r8 = 3 ∨ r8 = 4 ∨ r8 = 5 ∨ r8 = 6 ∨ r8 = 7 ∨ r8 = 8 := by omega
  clear r81 r82 r80 hnats
  go_upto_block 0 with fail
  go_cut [8] from 8 to 223 (fun s8 wx => WarpJ w0 bb wx)
  case rest =>
    obtain ⟨S', ns', cs', F', nf', cf', N', nn', cn', M', mm', cm', fcs', P', z0, z1, z2, b2, b4, bp, hcl, hok, hbw⟩ := hcut
    clear hF hM hI hL BP B2 R4 hT1 hb1 h8
    have p0 := bp.cell 0 _ rfl
    have p1 := bp.cell 1 _ rfl
    have p2 := bp.cell 2 _ rfl
    have c0 := b2.cell 0 _ rfl
    have c1 := b2.cell 1 _ rfl
    have c2 := b2.cell 2 _ rfl
    have cf2 := b2.free
    have b29 : Blk (((wc.setCell ⟨bb, 0, none⟩ (.slice S' ns' cs')).setCell ⟨bb, 1, none⟩ (.slice F' nf' cf')).setCell ⟨bb, 2, none⟩ (.slice N' nn' cn')) bb 67 #[.slice S' ns' cs', .slice F' nf' cf', .slice N' nn' cn', .slice M' mm' cm'] := ((b2.set 0 (.slice S' ns' cs')).set 1 (.slice F' nf' cf')).set 2 (.slice N' nn' cn')
    have b49 : Blk (((wc.setCell ⟨bb, 0, none⟩ (.slice S' ns' cs')).setCell ⟨bb, 1, none⟩ (.slice F' nf' cf')).setCell ⟨bb, 2, none⟩ (.slice N' nn' cn')) (bb + 1) 67 #[.slice none 0 0, .slice none 0 0, .slice none 0 0, .slice none 0 0] := ((b4.far (p := ⟨bb, 0, none⟩) (by show bb + 1 ≠ bb; omega) _).far (p := ⟨bb, 1, none⟩) (by show bb + 1 ≠ bb; omega) _).far (p := ⟨bb, 2, none⟩) (by show bb + 1 ≠ bb; omega) _
    have hx9 : OnlyX (fun i => i = bb ∨ i = bb + 1) wc (((wc.setCell ⟨bb, 0, none⟩ (.slice S' ns' cs')).setCell ⟨bb, 1, none⟩ (.slice F' nf' cf')).setCell ⟨bb, 2, none⟩ (.slice N' nn' cn')) := (((OnlyX.refl (X := (fun i => i = bb ∨ i = bb + 1))).set (p := ⟨bb, 0, none⟩) (fun _ => Or.inl rfl) _).set (p := ⟨bb, 1, none⟩) (fun _ => Or.inl rfl) _).set (p := ⟨bb, 2, none⟩) (fun _ => Or.inl rfl) _
    have HCL := Lib.hid hcl
    have HOK := Lib.hid hok
    have HBW := Lib.hid hbw
    clear hcl hok hbw b2 b4 bp
    go_upto_region 38 with fail
    obtain ⟨v9, hv9⟩ : ∃ v9, ((wc.setCell ⟨bb, 0, none⟩ (.slice S' ns' cs')).setCell ⟨bb, 1, none⟩ (.slice F' nf' cf')).setCell ⟨bb, 2, none⟩ (.slice N' nn' cn') = v9 := ⟨_, rfl⟩
    rw [hv9] at b29 b49 hx9 ⊢
    clear hv9 p0 p1 p2 c0 c1 c2 cf2
    obtain ⟨rr, hrr⟩ : ∃ rr, bb + 1 = rr := ⟨_, rfl⟩
    rw [hrr] at b49 hx9 HCL ⊢
    have hrb : bb < rr := by omega
    clear hrr
    have c0 := b29.cell 0 _ rfl
    have c1 := b29.cell 1 _ rfl
    have c2 := b29.cell 2 _ rfl
    have c3 := b29.cell 3 _ rfl
    have d0 := b49.cell 0 _ rfl
    have d1 := b49.cell 1 _ rfl
    have d2 := b49.cell 2 _ rfl
    have d3 := b49.cell 3 _ rfl
    have df := b49.free
    have hxf : OnlyX (fun i => i = bb ∨ i = rr) wc ((((v9.setCell ⟨rr, 0, none⟩ (.slice S' ns' cs')).setCell ⟨rr, 1, none⟩ (.slice F' nf' cf')).setCell ⟨rr, 2, none⟩ (.slice N' nn' cn')).setCell ⟨rr, 3, none⟩ (.slice M' mm' cm')) := (((hx9.set (p := ⟨rr, 0, none⟩) (fun _ => Or.inr rfl) _).set (p := ⟨rr, 1, none⟩) (fun _ => Or.inr rfl) _).set (p := ⟨rr, 2, none⟩) (fun _ => Or.inr rfl) _).set (p := ⟨rr, 3, none⟩) (fun _ => Or.inr rfl) _
    have HPF := Lib.hid (HCL.out _ hxf)
    have HBF := Lib.hid (below_onlyX HBW.out hxf (fun i hi e => by rcases e with e | e <;> omega))
    clear hxf hx9 b29 b49
    iterate 11 (first | go_values | go_skip | go_guarded | go_step)
    refine bodyPost_ret (v := imgV S' ns' cs' F' nf' cf' N' nn' cn' M' mm' cm') (by simp [results, Tryd.results21, go_sem, d0, d1, d2, d3]) rfl ?_
    exact ⟨S', ns', cs', F', nf', cf', N', nn', cn', M', mm', cm', fcs', P', rfl, HPF.out, HOK.out, HBF.out⟩
  case first =>
    rcases h8 with rfl | rfl | rfl | rfl | rfl | rfl | rfl | rfl | rfl
    · as_aux_lemma =>
        obtain ⟨bI, capx, curx, hv, hgx, -, -, -, -, -⟩ := own_block hI (by omega) (by omega)
        injection hv with hv1 hv2 hv3
        subst hv1
        clear hv2 hv3
        have hne : bF ≠ bI := fun e => own_nb hF hI (by decide) bF rfl e
        have hOT := own_nb hL hI (by decide)
        have HOT := Lib.hid hOT
        have f9 : v8.cell? ⟨bF, k * 4 + 3, none⟩ = some (.slice (some ⟨bI, 0, none⟩) m cI) := own_at (j := 3) hF fcCells_len HYZ.out rfl
        have f9d : (World.drew v8).cell? ⟨bF, k * 4 + 3, none⟩ = some (.slice (some ⟨bI, 0, none⟩) m cI) := f9
        have hTc : TapeAt (World.drew v8) g t8 := hT1.below (Below.refl _ _).drew
        have hIc := own_keep hI (Below.refl _ _).drew
        clear hOT
        go_upto_region 24 with fail
        clear f9
        refine wp_region_noPanic ?_
        refine wp_region_held_drew (S := fun u => u.cell? ⟨bF, k * 4 + 3, none⟩ = some (.slice (some ⟨bI, 0, none⟩) m cI) ∧ OnlyX (fun i => i = g ∨ i = bI) (World.drew v8) u) (by kernel_rfl) (⟨f9d, OnlyX.refl⟩) (fun hHeld => ?_)
        clear f9d
        refine wpAnyH_take (i := 0) (v := ?_) rfl (by kernel_rfl) (by kernel_rfl) (by kernel_rfl) (fun _ _ _ h => h) (Or.inl ⟨by rfl, ?_⟩) (by assumption) ?_
        rotate_left
        · intro wq hSw; clear hSw; go_simp; (try with_reducible rfl)
        (try simp only [List.getElem_toArray, List.getElem_cons_zero, List.getElem_cons_succ, Act.put, List.setIfInBounds_toArray, List.set_cons_zero, List.set_cons_succ])
        refine wpAnyH_take (i := 1) (v := ?_) rfl (by kernel_rfl) (by kernel_rfl) (by kernel_rfl) (fun _ _ _ h => h) (Or.inl ⟨by rfl, ?_⟩) (by assumption) ?_
        rotate_left
        · intro wq hSw; clear hSw; go_simp; (try with_reducible rfl)
        (try simp only [List.getElem_toArray, List.getElem_cons_zero, List.getElem_cons_succ, Act.put, List.setIfInBounds_toArray, List.set_cons_zero, List.set_cons_succ])
        refine wpAnyH_take (i := 2) (v := ?_) rfl (by kernel_rfl) (by kernel_rfl) (by kernel_rfl) (fun _ _ _ h => h) (Or.inl ⟨by rfl, ?_⟩) (by assumption) ?_
        rotate_left
        · intro wq hSw; clear hSw; go_simp; (try with_reducible rfl)
        (try simp only [List.getElem_toArray, List.getElem_cons_zero, List.getElem_cons_succ, Act.put, List.setIfInBounds_toArray, List.set_cons_zero, List.set_cons_succ])
        refine wpAnyH_take (i := 3) (v := ?_) rfl (by kernel_rfl) (by kernel_rfl) (by kernel_rfl) (fun _ _ _ h => h) (Or.inl ⟨by rfl, ?_⟩) (by assumption) ?_
        rotate_left
        · intro wq hSw; have y1 := hSw.1; clear hSw; go_simp; (try with_reducible rfl)
        (try simp only [List.getElem_toArray, List.getElem_cons_zero, List.getElem_cons_succ, Act.put, List.setIfInBounds_toArray, List.set_cons_zero, List.set_cons_succ])
        refine wpAnyH_take (i := 4) (v := ?_) rfl (by kernel_rfl) (by kernel_rfl) (by kernel_rfl) (fun _ _ _ h => h) (Or.inl ⟨by rfl, ?_⟩) (by assumption) ?_
        rotate_left
        · intro wq hSw; clear hSw; go_simp; (try with_reducible rfl)
        (try simp only [List.getElem_toArray, List.getElem_cons_zero, List.getElem_cons_succ, Act.put, List.setIfInBounds_toArray, List.set_cons_zero, List.set_cons_succ])
        refine wpAnyH_take (i := 5) (v := ?_) rfl (by kernel_rfl) (by kernel_rfl) (by kernel_rfl) (fun _ _ _ h => h) (Or.inl ⟨by rfl, ?_⟩) (by assumption) ?_
        rotate_left
        · intro wq hSw; clear hSw; go_simp; (try with_reducible rfl)
        (try simp only [List.getElem_toArray, List.getElem_cons_zero, List.getElem_cons_succ, Act.put, List.setIfInBounds_toArray, List.set_cons_zero, List.set_cons_succ])
        refine wpAnyH_take (i := 6) (v := ?_) rfl (by kernel_rfl) (by kernel_rfl) (by kernel_rfl) (fun _ _ _ h => h) (Or.inl ⟨by rfl, ?_⟩) (by assumption) ?_
        rotate_left
        · intro wq hSw; clear hSw; go_simp; (try with_reducible rfl)
        (try simp only [List.getElem_toArray, List.getElem_cons_zero, List.getElem_cons_succ, Act.put, List.setIfInBounds_toArray, List.set_cons_zero, List.set_cons_succ])
        refine wpAnyH_take (i := 7) (v := ?_) rfl (by kernel_rfl) (by kernel_rfl) (by kernel_rfl) (fun _ _ _ h => h) (Or.inl ⟨by rfl, ?_⟩) (by assumption) ?_
        rotate_left
        · intro wq hSw; clear hSw; go_simp; (try with_reducible rfl)
        (try simp only [List.getElem_toArray, List.getElem_cons_zero, List.getElem_cons_succ, Act.put, List.setIfInBounds_toArray, List.set_cons_zero, List.set_cons_succ])
        refine wpAnyH_take (i := 8) (v := ?_) rfl (by kernel_rfl) (by kernel_rfl) (by kernel_rfl) (fun _ _ _ h => h) (Or.inl ⟨by rfl, ?_⟩) (by assumption) ?_
        rotate_left
        · intro wq hSw; have y1 := hSw.1; clear hSw; go_simp; (try with_reducible rfl)
        (try simp only [List.getElem_toArray, List.getElem_cons_zero, List.getElem_cons_succ, Act.put, List.setIfInBounds_toArray, List.set_cons_zero, List.set_cons_succ])
        refine wpAnyH_take (i := 9) (v := ?_) rfl (by kernel_rfl) (by kernel_rfl) (by kernel_rfl) (fun _ _ _ h => h) (Or.inl ⟨by rfl, ?_⟩) (by assumption) ?_
        rotate_left
        · intro wq hSw; clear hSw; go_simp; (try with_reducible rfl)
        (try simp only [List.getElem_toArray, List.getElem_cons_zero, List.getElem_cons_succ, Act.put, List.setIfInBounds_toArray, List.set_cons_zero, List.set_cons_succ])
        refine wpAnyH_take (i := 11) (v := ?_) rfl (by kernel_rfl) (by kernel_rfl) (by kernel_rfl) (fun _ _ _ h => h) (Or.inl ⟨by rfl, ?_⟩) (by assumption) ?_
        rotate_left
        · intro wq hSw; clear hSw; go_simp; (try with_reducible rfl)
        (try simp only [List.getElem_toArray, List.getElem_cons_zero, List.getElem_cons_succ, Act.put, List.setIfInBounds_toArray, List.set_cons_zero, List.set_cons_succ])
        refine wpAnyH_ready (rs := [10]) (by kernel_rfl) (by simp) ?_
        refine AllReadyH.cons (i := 10) (by rfl) ?_ (AllReadyH.nil)
        intro K' hK
        simp only [List.getElem_toArray, List.getElem_cons_zero, List.getElem_cons_succ]
        refine if_yes (by kernel_rfl) ?_
        go_big_op
        (go_at_call 39; refine (HNX.out _ _ (m : Int) hTc (by omega) (by omega)).mono ?_; rintro e wi ⟨ri, rfl, ri0, ri1, ti, hti, hTd, hgc⟩)
        refine hK.out _ _ ?_ (fun hHeld2 => ?_)
        · exact ⟨(HG1.out _ _ hgc).cell hHeld.1 (by omega), hHeld.2.trans ((HG1.out _ _ hgc).mono (fun i _ e => Or.inl e))⟩
        clear hK K' hHeld
        have hHeld := hHeld2
        clear hHeld2
        (try simp only [List.getElem_toArray, List.getElem_cons_zero, List.getElem_cons_succ, Act.put, List.setIfInBounds_toArray, List.set_cons_zero, List.set_cons_succ])
        have hIc := own_onlyX hIc (HG1.out _ _ hgc) (fun i hi e => by have := (hIc.lt i hi).1; omega)
        have hTc := hTd
        clear hTd hgc
        obtain ⟨ix, rfl⟩ : ∃ ix : Nat, ri = ix := ⟨ri.toNat, by omega⟩
        have hixm : ix < m := by omega
        have i0 : (0 : Int) ≤ (ix : Int) := by omega
        have i1 : (ix : Int) < (m : Int) := by omega
        clear ri0 ri1
        refine wpAnyH_ready (rs := [12]) (by kernel_rfl) (by simp) ?_
        refine AllReadyH.cons (i := 12) (by rfl) ?_ (AllReadyH.nil)
        intro K' hK
        simp only [List.getElem_toArray, List.getElem_cons_zero, List.getElem_cons_succ]
        refine if_yes (by kernel_rfl) ?_
        go_big_op
        (go_at_call 39; refine (HNX.out _ _ 28 hTc (by omega) (by omega)).mono ?_; rintro e wv ⟨rv, rfl, rv0, rv1, tv, htv, hTd, hgc⟩)
        refine hK.out _ _ ?_ (fun hHeld2 => ?_)
        · exact ⟨(HG1.out _ _ hgc).cell hHeld.1 (by omega), hHeld.2.trans ((HG1.out _ _ hgc).mono (fun i _ e => Or.inl e))⟩
        clear hK K' hHeld
        have hHeld := hHeld2
        clear hHeld2
        (try simp only [List.getElem_toArray, List.getElem_cons_zero, List.getElem_cons_succ, Act.put, List.setIfInBounds_toArray, List.set_cons_zero, List.set_cons_succ])
        have hIc := own_onlyX hIc (HG1.out _ _ hgc) (fun i hi e => by have := (hIc.lt i hi).1; omega)
        have hTc := hTd
        clear hTd hgc
        obtain ⟨y, hix⟩ : ∃ y, ins[ix]? = some y := ⟨_, List.getElem?_eq_getElem (by have := HLI.out; omega)⟩
        have cst : wv.cell? ⟨bI, ix * 5, none⟩ = some (.int .i64 y.op) := own_at (k := ix) (j := 0) hIc insCells_len hix rfl
        have cfr := own_free hIc
        have HIX := Lib.hid hix
        clear hix
        refine wpAnyH_take (i := 13) (v := ?_) rfl (by kernel_rfl) (by kernel_rfl) (by kernel_rfl) (fun _ _ _ h => h) (Or.inl ⟨by rfl, ?_⟩) (by assumption) ?_
        rotate_left
        · intro wq hSw; clear hSw; go_simp; (try with_reducible rfl)
        (try simp only [List.getElem_toArray, List.getElem_cons_zero, List.getElem_cons_succ, Act.put, List.setIfInBounds_toArray, List.set_cons_zero, List.set_cons_succ])
        refine wpAnyH_take (i := 14) (v := ?_) rfl (by kernel_rfl) (by kernel_rfl) (by kernel_rfl) (fun _ _ _ h => h) (Or.inl ⟨by rfl, ?_⟩) (by assumption) ?_
        rotate_left
        · intro wq hSw; clear hSw; go_simp; (try with_reducible rfl)
        (try simp only [List.getElem_toArray, List.getElem_cons_zero, List.getElem_cons_succ, Act.put, List.setIfInBounds_toArray, List.set_cons_zero, List.set_cons_succ])
        refine wpAnyH_ready (rs := [15]) (by kernel_rfl) (by simp) ?_
        refine AllReadyH.cons (i := 15) (by rfl) ?_ (AllReadyH.nil)
        intro K' hK
        simp only [List.getElem_toArray, List.getElem_cons_zero, List.getElem_cons_succ]
        refine if_yes (by kernel_rfl) ?_
        go_big_op
        refine hK.out _ _ ?_ (fun hHeld2 => ?_)
        · exact ⟨cell_far (by show bI ≠ bF; exact fun e => hne e.symm) hHeld.1, hHeld.2.set (p := ⟨bI, ix * 5, none⟩) (fun _ => Or.inr rfl) _⟩
        clear hK K' hHeld
        have hHeld := hHeld2
        clear hHeld2
        (try simp only [List.getElem_toArray, List.getElem_cons_zero, List.getElem_cons_succ, Act.put, List.setIfInBounds_toArray, List.set_cons_zero, List.set_cons_succ])
        refine wpAnyH_done (by kernel_rfl) ?_ _
        refine NoPanic.normal ?_
        have hXf : OnlyX (fun i => i = g ∨ i = bI) v8 _ := (OnlyX.refl.drew).trans hHeld.2
        have hFf := own_onlyX hF hXf (fun i hi e => by have h1 := (hF.lt i hi).1; have h2 : bF = i := Option.some.inj hi; rcases e with e | e <;> omega)
        have hIf0 := (hIc.stored (ix * 5 + 0) (.int .i64 rv)).1
        rw [flat_set insCells_len HIX.out (by omega) (show (insCells y).set 0 (.int .i64 rv) = insCells ⟨rv, y.a, y.b, y.c, y.k⟩ from rfl)] at hIf0
        have hIf := hIf0
        have hLf := own_onlyX hL hXf (fun i hi e => by have h1 := (hL.lt i hi).1; rcases e with e | e; (· omega); (· exact HOT.out i hi e))
        have B2f := B2.onlyX (X := (fun i => i = g ∨ i = bI)) (by omega) hXf
        have R4f := R4.onlyX (X := (fun i => i = g ∨ i = bI)) (by omega) hXf
        have BPf := BP.onlyX (X := (fun i => i = g ∨ i = bI)) (by omega) hXf
        have hb1f := below_onlyX hb1 hXf (fun i hi e => by rcases e with e | e <;> omega)
        have hfok : Fn.ok ⟨p, locs, r, ins.set ix ⟨rv, y.a, y.b, y.c, y.k⟩⟩ := ⟨HFO.out.p, HFO.out.r, HFO.out.nl, by have := HFO.out.ni; dsimp only at this ⊢; rw [List.length_set]; exact this, fun z hz => by
          have hy := HFO.out.ins y (List.mem_of_getElem? HIX.out)
          rcases set_mem hz with rfl | hz
          · exact ⟨by unfold I64; dsimp only; omega, hy.2.1, hy.2.2.1, hy.2.2.2⟩
          · exact HFO.out.ins z hz⟩
        clear hHeld hXf cst cfr hTc hIc hIf0
        obtain ⟨AL2, cL2, eL, hLR⟩ := Reads.own hLf
        injection eL with x1 x2 x3
        subst x1 x3
        obtain ⟨AI2, cI2, eI, hIR⟩ := Reads.own hIf
        injection eI with x1 x2 x3
        subst x1 x3
        have HJ := Lib.hid (warpJ_of HP.out HK.out hb1f h0b B2f R4f BPf hk hFf (f := ⟨p, locs, r, ins.set ix ⟨rv, y.a, y.b, y.c, y.k⟩⟩) ⟨rfl, rfl, hLR, hIR⟩ (fun b off _ e => by have := (hLf.lt b (congrArg (fun A => (Value.slice A n cL).ownBlock) e)).1; omega) (fun b off _ e => by have := (hIf.lt b (congrArg (fun A => (Value.slice A m cI).ownBlock) e)).1; omega) hfok (HP.out.nats.below hb1f |>.more hb1f.size) (fun b off hn e => by obtain ⟨b', off', e', hb', -⟩ := HP.out.nats.at_ hn; rw [e] at e'; cases e'; exact Or.inl hb') (by omega))
        clear hLR hIR hFf hLf hIf B2f R4f BPf hb1f hF hL hI hM BP B2 R4 hT1 hb1
        go_wp2_with fail
        go_meet
        exact HJ.out
    · as_aux_lemma =>
        obtain ⟨bI, capx, curx, hv, hgx, -, -, -, -, -⟩ := own_block hI (by omega) (by omega)
        injection hv with hv1 hv2 hv3
        subst hv1
        clear hv2 hv3
        have hne : bF ≠ bI := fun e => own_nb hF hI (by decide) bF rfl e
        have hOT := own_nb hL hI (by decide)
        have HOT := Lib.hid hOT
        have f9 : v8.cell? ⟨bF, k * 4 + 3, none⟩ = some (.slice (some ⟨bI, 0, none⟩) m cI) := own_at (j := 3) hF fcCells_len HYZ.out rfl
        have f9d : (World.drew v8).cell? ⟨bF, k * 4 + 3, none⟩ = some (.slice (some ⟨bI, 0, none⟩) m cI) := f9
        have hTc : TapeAt (World.drew v8) g t8 := hT1.below (Below.refl _ _).drew
        have hIc := own_keep hI (Below.refl _ _).drew
        clear hOT
        go_upto_region 26 with fail
        clear f9
        refine wp_region_noPanic ?_
        refine wp_region_held_drew (S := fun u => u.cell? ⟨bF, k * 4 + 3, none⟩ = some (.slice (some ⟨bI, 0, none⟩) m cI) ∧ OnlyX (fun i => i = g ∨ i = bI) (World.drew v8) u) (by kernel_rfl) (⟨f9d, OnlyX.refl⟩) (fun hHeld => ?_)
        clear f9d
        refine wpAnyH_take (i := 0) (v := ?_) rfl (by kernel_rfl) (by kernel_rfl) (by kernel_rfl) (fun _ _ _ h => h) (Or.inl ⟨by rfl, ?_⟩) (by assumption) ?_
        rotate_left
        · intro wq hSw; clear hSw; go_simp; (try with_reducible rfl)
        (try simp only [List.getElem_toArray, List.getElem_cons_zero, List.getElem_cons_succ, Act.put, List.setIfInBounds_toArray, List.set_cons_zero, List.set_cons_succ])
        refine wpAnyH_take (i := 1) (v := ?_) rfl (by kernel_rfl) (by kernel_rfl) (by kernel_rfl) (fun _ _ _ h => h) (Or.inl ⟨by rfl, ?_⟩) (by assumption) ?_
        rotate_left
        · intro wq hSw; clear hSw; go_simp; (try with_reducible rfl)
        (try simp only [List.getElem_toArray, List.getElem_cons_zero, List.getElem_cons_succ, Act.put, List.setIfInBounds_toArray, List.set_cons_zero, List.set_cons_succ])
        refine wpAnyH_take (i := 2) (v := ?_) rfl (by kernel_rfl) (by kernel_rfl) (by kernel_rfl) (fun _ _ _ h => h) (Or.inl ⟨by rfl, ?_⟩) (by assumption) ?_
        rotate_left
        · intro wq hSw; clear hSw; go_simp; (try with_reducible rfl)
        (try simp only [List.getElem_toArray, List.getElem_cons_zero, List.getElem_cons_succ, Act.put, List.setIfInBounds_toArray, List.set_cons_zero, List.set_cons_succ])
        refine wpAnyH_take (i := 3) (v := ?_) rfl (by kernel_rfl) (by kernel_rfl) (by kernel_rfl) (fun _ _ _ h => h) (Or.inl ⟨by rfl, ?_⟩) (by assumption) ?_
        rotate_left
        · intro wq hSw; have y1 := hSw.1; clear hSw; go_simp; (try with_reducible rfl)
        (try simp only [List.getElem_toArray, List.getElem_cons_zero, List.getElem_cons_succ, Act.put, List.setIfInBounds_toArray, List.set_cons_zero, List.set_cons_succ])
        refine wpAnyH_take (i := 4) (v := ?_) rfl (by kernel_rfl) (by kernel_rfl) (by kernel_rfl) (fun _ _ _ h => h) (Or.inl ⟨by rfl, ?_⟩) (by assumption) ?_
        rotate_left
        · intro wq hSw; clear hSw; go_simp; (try with_reducible rfl)
        (try simp only [List.getElem_toArray, List.getElem_cons_zero, List.getElem_cons_succ, Act.put, List.setIfInBounds_toArray, List.set_cons_zero, List.set_cons_succ])
        refine wpAnyH_take (i := 5) (v := ?_) rfl (by kernel_rfl) (by kernel_rfl) (by kernel_rfl) (fun _ _ _ h => h) (Or.inl ⟨by rfl, ?_⟩) (by assumption) ?_
        rotate_left
        · intro wq hSw; clear hSw; go_simp; (try with_reducible rfl)
        (try simp only [List.getElem_toArray, List.getElem_cons_zero, List.getElem_cons_succ, Act.put, List.setIfInBounds_toArray, List.set_cons_zero, List.set_cons_succ])
        refine wpAnyH_take (i := 6) (v := ?_) rfl (by kernel_rfl) (by kernel_rfl) (by kernel_rfl) (fun _ _ _ h => h) (Or.inl ⟨by rfl, ?_⟩) (by assumption) ?_
        rotate_left
        · intro wq hSw; clear hSw; go_simp; (try with_reducible rfl)
        (try simp only [List.getElem_toArray, List.getElem_cons_zero, List.getElem_cons_succ, Act.put, List.setIfInBounds_toArray, List.set_cons_zero, List.set_cons_succ])
        refine wpAnyH_take (i := 7) (v := ?_) rfl (by kernel_rfl) (by kernel_rfl) (by kernel_rfl) (fun _ _ _ h => h) (Or.inl ⟨by rfl, ?_⟩) (by assumption) ?_
        rotate_left
        · intro wq hSw; clear hSw; go_simp; (try with_reducible rfl)
        (try simp only [List.getElem_toArray, List.getElem_cons_zero, List.getElem_cons_succ, Act.put, List.setIfInBounds_toArray, List.set_cons_zero, List.set_cons_succ])
        refine wpAnyH_take (i := 8) (v := ?_) rfl (by kernel_rfl) (by kernel_rfl) (by kernel_rfl) (fun _ _ _ h => h) (Or.inl ⟨by rfl, ?_⟩) (by assumption) ?_
        rotate_left
        · intro wq hSw; have y1 := hSw.1; clear hSw; go_simp; (try with_reducible rfl)
        (try simp only [List.getElem_toArray, List.getElem_cons_zero, List.getElem_cons_succ, Act.put, List.setIfInBounds_toArray, List.set_cons_zero, List.set_cons_succ])
        refine wpAnyH_take (i := 9) (v := ?_) rfl (by kernel_rfl) (by kernel_rfl) (by kernel_rfl) (fun _ _ _ h => h) (Or.inl ⟨by rfl, ?_⟩) (by assumption) ?_
        rotate_left
        · intro wq hSw; clear hSw; go_simp; (try with_reducible rfl)
        (try simp only [List.getElem_toArray, List.getElem_cons_zero, List.getElem_cons_succ, Act.put, List.setIfInBounds_toArray, List.set_cons_zero, List.set_cons_succ])
        refine wpAnyH_take (i := 11) (v := ?_) rfl (by kernel_rfl) (by kernel_rfl) (by kernel_rfl) (fun _ _ _ h => h) (Or.inl ⟨by rfl, ?_⟩) (by assumption) ?_
        rotate_left
        · intro wq hSw; clear hSw; go_simp; (try with_reducible rfl)
        (try simp only [List.getElem_toArray, List.getElem_cons_zero, List.getElem_cons_succ, Act.put, List.setIfInBounds_toArray, List.set_cons_zero, List.set_cons_succ])
        refine wpAnyH_ready (rs := [10]) (by kernel_rfl) (by simp) ?_
        refine AllReadyH.cons (i := 10) (by rfl) ?_ (AllReadyH.nil)
        intro K' hK
        simp only [List.getElem_toArray, List.getElem_cons_zero, List.getElem_cons_succ]
        refine if_yes (by kernel_rfl) ?_
        go_big_op
        (go_at_call 39; refine (HNX.out _ _ (m : Int) hTc (by omega) (by omega)).mono ?_; rintro e wi ⟨ri, rfl, ri0, ri1, ti, hti, hTd, hgc⟩)
        refine hK.out _ _ ?_ (fun hHeld2 => ?_)
        · exact ⟨(HG1.out _ _ hgc).cell hHeld.1 (by omega), hHeld.2.trans ((HG1.out _ _ hgc).mono (fun i _ e => Or.inl e))⟩
        clear hK K' hHeld
        have hHeld := hHeld2
        clear hHeld2
        (try simp only [List.getElem_toArray, List.getElem_cons_zero, List.getElem_cons_succ, Act.put, List.setIfInBounds_toArray, List.set_cons_zero, List.set_cons_succ])
        have hIc := own_onlyX hIc (HG1.out _ _ hgc) (fun i hi e => by have := (hIc.lt i hi).1; omega)
        have hTc := hTd
        clear hTd hgc
        obtain ⟨ix, rfl⟩ : ∃ ix : Nat, ri = ix := ⟨ri.toNat, by omega⟩
        have hixm : ix < m := by omega
        have i0 : (0 : Int) ≤ (ix : Int) := by omega
        have i1 : (ix : Int) < (m : Int) := by omega
        clear ri0 ri1
        refine wpAnyH_ready (rs := [12]) (by kernel_rfl) (by simp) ?_
        refine AllReadyH.cons (i := 12) (by rfl) ?_ (AllReadyH.nil)
        intro K' hK
        simp only [List.getElem_toArray, List.getElem_cons_zero, List.getElem_cons_succ]
        refine if_yes (by kernel_rfl) ?_
        go_big_op
        (go_at_call 39; refine (HNX.out _ _ 12 hTc (by omega) (by omega)).mono ?_; rintro e wv ⟨rv, rfl, rv0, rv1, tv, htv, hTd, hgc⟩)
        refine hK.out _ _ ?_ (fun hHeld2 => ?_)
        · exact ⟨(HG1.out _ _ hgc).cell hHeld.1 (by omega), hHeld.2.trans ((HG1.out _ _ hgc).mono (fun i _ e => Or.inl e))⟩
        clear hK K' hHeld
        have hHeld := hHeld2
        clear hHeld2
        (try simp only [List.getElem_toArray, List.getElem_cons_zero, List.getElem_cons_succ, Act.put, List.setIfInBounds_toArray, List.set_cons_zero, List.set_cons_succ])
        have hIc := own_onlyX hIc (HG1.out _ _ hgc) (fun i hi e => by have := (hIc.lt i hi).1; omega)
        have hTc := hTd
        clear hTd hgc
        obtain ⟨y, hix⟩ : ∃ y, ins[ix]? = some y := ⟨_, List.getElem?_eq_getElem (by have := HLI.out; omega)⟩
        have cst : wv.cell? ⟨bI, ix * 5 + 1, none⟩ = some (.int .i64 y.a) := own_at (k := ix) (j := 1) hIc insCells_len hix rfl
        have cfr := own_free hIc
        have HIX := Lib.hid hix
        clear hix
        have wv : IntKind.i64.wrap (rv - 1) = rv - 1 := IntWalk.i64_in _ (by omega)
        refine wpAnyH_take (i := 13) (v := ?_) rfl (by kernel_rfl) (by kernel_rfl) (by kernel_rfl) (fun _ _ _ h => h) (Or.inl ⟨by rfl, ?_⟩) (by assumption) ?_
        rotate_left
        · intro wq hSw; clear hSw; go_simp; (try with_reducible rfl)
        (try simp only [List.getElem_toArray, List.getElem_cons_zero, List.getElem_cons_succ, Act.put, List.setIfInBounds_toArray, List.set_cons_zero, List.set_cons_succ])
        refine wpAnyH_take (i := 14) (v := ?_) rfl (by kernel_rfl) (by kernel_rfl) (by kernel_rfl) (fun _ _ _ h => h) (Or.inl ⟨by rfl, ?_⟩) (by assumption) ?_
        rotate_left
        · intro wq hSw; clear hSw; go_simp; (try with_reducible rfl)
        (try simp only [List.getElem_toArray, List.getElem_cons_zero, List.getElem_cons_succ, Act.put, List.setIfInBounds_toArray, List.set_cons_zero, List.set_cons_succ])
        refine wpAnyH_take (i := 15) (v := ?_) rfl (by kernel_rfl) (by kernel_rfl) (by kernel_rfl) (fun _ _ _ h => h) (Or.inl ⟨by rfl, ?_⟩) (by assumption) ?_
        rotate_left
        · intro wq hSw; clear hSw; go_simp; (try with_reducible rfl)
        (try simp only [List.getElem_toArray, List.getElem_cons_zero, List.getElem_cons_succ, Act.put, List.setIfInBounds_toArray, List.set_cons_zero, List.set_cons_succ])
        refine wpAnyH_ready (rs := [16]) (by kernel_rfl) (by simp) ?_
        refine AllReadyH.cons (i := 16) (by rfl) ?_ (AllReadyH.nil)
        intro K' hK
        simp only [List.getElem_toArray, List.getElem_cons_zero, List.getElem_cons_succ]
        refine if_yes (by kernel_rfl) ?_
        go_big_op
        refine hK.out _ _ ?_ (fun hHeld2 => ?_)
        · exact ⟨cell_far (by show bI ≠ bF; exact fun e => hne e.symm) hHeld.1, hHeld.2.set (p := ⟨bI, ix * 5 + 1, none⟩) (fun _ => Or.inr rfl) _⟩
        clear hK K' hHeld
        have hHeld := hHeld2
        clear hHeld2
        (try simp only [List.getElem_toArray, List.getElem_cons_zero, List.getElem_cons_succ, Act.put, List.setIfInBounds_toArray, List.set_cons_zero, List.set_cons_succ])
        refine wpAnyH_done (by kernel_rfl) ?_ _
        refine NoPanic.normal ?_
        clear wv
        have hXf : OnlyX (fun i => i = g ∨ i = bI) v8 _ := (OnlyX.refl.drew).trans hHeld.2
        have hFf := own_onlyX hF hXf (fun i hi e => by have h1 := (hF.lt i hi).1; have h2 : bF = i := Option.some.inj hi; rcases e with e | e <;> omega)
        have hIf0 := (hIc.stored (ix * 5 + 1) (.int .i64 (rv - 1))).1
        rw [flat_set insCells_len HIX.out (by omega) (show (insCells y).set 1 (.int .i64 (rv - 1)) = insCells ⟨y.op, rv - 1, y.b, y.c, y.k⟩ from rfl)] at hIf0
        have hIf := hIf0
        have hLf := own_onlyX hL hXf (fun i hi e => by have h1 := (hL.lt i hi).1; rcases e with e | e; (· omega); (· exact HOT.out i hi e))
        have B2f := B2.onlyX (X := (fun i => i = g ∨ i = bI)) (by omega) hXf
        have R4f := R4.onlyX (X := (fun i => i = g ∨ i = bI)) (by omega) hXf
        have BPf := BP.onlyX (X := (fun i => i = g ∨ i = bI)) (by omega) hXf
        have hb1f := below_onlyX hb1 hXf (fun i hi e => by rcases e with e | e <;> omega)
        have hfok : Fn.ok ⟨p, locs, r, ins.set ix ⟨y.op, rv - 1, y.b, y.c, y.k⟩⟩ := ⟨HFO.out.p, HFO.out.r, HFO.out.nl, by have := HFO.out.ni; dsimp only at this ⊢; rw [List.length_set]; exact this, fun z hz => by
          have hy := HFO.out.ins y (List.mem_of_getElem? HIX.out)
          rcases set_mem hz with rfl | hz
          · exact ⟨hy.1, by unfold I64; dsimp only; omega, hy.2.2.1, hy.2.2.2⟩
          · exact HFO.out.ins z hz⟩
        clear hHeld hXf cst cfr hTc hIc hIf0
        obtain ⟨AL2, cL2, eL, hLR⟩ := Reads.own hLf
        injection eL with x1 x2 x3
        subst x1 x3
        obtain ⟨AI2, cI2, eI, hIR⟩ := Reads.own hIf
        injection eI with x1 x2 x3
        subst x1 x3
        have HJ := Lib.hid (warpJ_of HP.out HK.out hb1f h0b B2f R4f BPf hk hFf (f := ⟨p, locs, r, ins.set ix ⟨y.op, rv - 1, y.b, y.c, y.k⟩⟩) ⟨rfl, rfl, hLR, hIR⟩ (fun b off _ e => by have := (hLf.lt b (congrArg (fun A => (Value.slice A n cL).ownBlock) e)).1; omega) (fun b off _ e => by have := (hIf.lt b (congrArg (fun A => (Value.slice A m cI).ownBlock) e)).1; omega) hfok (HP.out.nats.below hb1f |>.more hb1f.size) (fun b off hn e => by obtain ⟨b', off', e', hb', -⟩ := HP.out.nats.at_ hn; rw [e] at e'; cases e'; exact Or.inl hb') (by omega))
        clear hLR hIR hFf hLf hIf B2f R4f BPf hb1f hF hL hI hM BP B2 R4 hT1 hb1
        go_wp2_with fail
        go_meet
        exact HJ.out
    · as_aux_lemma =>
        obtain ⟨bI, capx, curx, hv, hgx, -, -, -, -, -⟩ := own_block hI (by omega) (by omega)
        injection hv with hv1 hv2 hv3
        subst hv1
        clear hv2 hv3
        have hne : bF ≠ bI := fun e => own_nb hF hI (by decide) bF rfl e
        have hOT := own_nb hL hI (by decide)
        have HOT := Lib.hid hOT
        have f9 : v8.cell? ⟨bF, k * 4 + 3, none⟩ = some (.slice (some ⟨bI, 0, none⟩) m cI) := own_at (j := 3) hF fcCells_len HYZ.out rfl
        have f9d : (World.drew v8).cell? ⟨bF, k * 4 + 3, none⟩ = some (.slice (some ⟨bI, 0, none⟩) m cI) := f9
        have hTc : TapeAt (World.drew v8) g t8 := hT1.below (Below.refl _ _).drew
        have hIc := own_keep hI (Below.refl _ _).drew
        clear hOT
        go_upto_region 28 with fail
        clear f9
        refine wp_region_noPanic ?_
        refine wp_region_held_drew (S := fun u => u.cell? ⟨bF, k * 4 + 3, none⟩ = some (.slice (some ⟨bI, 0, none⟩) m cI) ∧ OnlyX (fun i => i = g ∨ i = bI) (World.drew v8) u) (by kernel_rfl) (⟨f9d, OnlyX.refl⟩) (fun hHeld => ?_)
        clear f9d
        refine wpAnyH_take (i := 0) (v := ?_) rfl (by kernel_rfl) (by kernel_rfl) (by kernel_rfl) (fun _ _ _ h => h) (Or.inl ⟨by rfl, ?_⟩) (by assumption) ?_
        rotate_left
        · intro wq hSw; clear hSw; go_simp; (try with_reducible rfl)
        (try simp only [List.getElem_toArray, List.getElem_cons_zero, List.getElem_cons_succ, Act.put, List.setIfInBounds_toArray, List.set_cons_zero, List.set_cons_succ])
        refine wpAnyH_take (i := 1) (v := ?_) rfl (by kernel_rfl) (by kernel_rfl) (by kernel_rfl) (fun _ _ _ h => h) (Or.inl ⟨by rfl, ?_⟩) (by assumption) ?_
        rotate_left
        · intro wq hSw; clear hSw; go_simp; (try with_reducible rfl)
        (try simp only [List.getElem_toArray, List.getElem_cons_zero, List.getElem_cons_succ, Act.put, List.setIfInBounds_toArray, List.set_cons_zero, List.set_cons_succ])
        refine wpAnyH_take (i := 2) (v := ?_) rfl (by kernel_rfl) (by kernel_rfl) (by kernel_rfl) (fun _ _ _ h => h) (Or.inl ⟨by rfl, ?_⟩) (by assumption) ?_
        rotate_left
        · intro wq hSw; clear hSw; go_simp; (try with_reducible rfl)
        (try simp only [List.getElem_toArray, List.getElem_cons_zero, List.getElem_cons_succ, Act.put, List.setIfInBounds_toArray, List.set_cons_zero, List.set_cons_succ])
        refine wpAnyH_take (i := 3) (v := ?_) rfl (by kernel_rfl) (by kernel_rfl) (by kernel_rfl) (fun _ _ _ h => h) (Or.inl ⟨by rfl, ?_⟩) (by assumption) ?_
        rotate_left
        · intro wq hSw; have y1 := hSw.1; clear hSw; go_simp; (try with_reducible rfl)
        (try simp only [List.getElem_toArray, List.getElem_cons_zero, List.getElem_cons_succ, Act.put, List.setIfInBounds_toArray, List.set_cons_zero, List.set_cons_succ])
        refine wpAnyH_take (i := 4) (v := ?_) rfl (by kernel_rfl) (by kernel_rfl) (by kernel_rfl) (fun _ _ _ h => h) (Or.inl ⟨by rfl, ?_⟩) (by assumption) ?_
        rotate_left
        · intro wq hSw; clear hSw; go_simp; (try with_reducible rfl)
        (try simp only [List.getElem_toArray, List.getElem_cons_zero, List.getElem_cons_succ, Act.put, List.setIfInBounds_toArray, List.set_cons_zero, List.set_cons_succ])
        refine wpAnyH_take (i := 5) (v := ?_) rfl (by kernel_rfl) (by kernel_rfl) (by kernel_rfl) (fun _ _ _ h => h) (Or.inl ⟨by rfl, ?_⟩) (by assumption) ?_
        rotate_left
        · intro wq hSw; clear hSw; go_simp; (try with_reducible rfl)
        (try simp only [List.getElem_toArray, List.getElem_cons_zero, List.getElem_cons_succ, Act.put, List.setIfInBounds_toArray, List.set_cons_zero, List.set_cons_succ])
        refine wpAnyH_take (i := 6) (v := ?_) rfl (by kernel_rfl) (by kernel_rfl) (by kernel_rfl) (fun _ _ _ h => h) (Or.inl ⟨by rfl, ?_⟩) (by assumption) ?_
        rotate_left
        · intro wq hSw; clear hSw; go_simp; (try with_reducible rfl)
        (try simp only [List.getElem_toArray, List.getElem_cons_zero, List.getElem_cons_succ, Act.put, List.setIfInBounds_toArray, List.set_cons_zero, List.set_cons_succ])
        refine wpAnyH_take (i := 7) (v := ?_) rfl (by kernel_rfl) (by kernel_rfl) (by kernel_rfl) (fun _ _ _ h => h) (Or.inl ⟨by rfl, ?_⟩) (by assumption) ?_
        rotate_left
        · intro wq hSw; clear hSw; go_simp; (try with_reducible rfl)
        (try simp only [List.getElem_toArray, List.getElem_cons_zero, List.getElem_cons_succ, Act.put, List.setIfInBounds_toArray, List.set_cons_zero, List.set_cons_succ])
        refine wpAnyH_take (i := 8) (v := ?_) rfl (by kernel_rfl) (by kernel_rfl) (by kernel_rfl) (fun _ _ _ h => h) (Or.inl ⟨by rfl, ?_⟩) (by assumption) ?_
        rotate_left
        · intro wq hSw; have y1 := hSw.1; clear hSw; go_simp; (try with_reducible rfl)
        (try simp only [List.getElem_toArray, List.getElem_cons_zero, List.getElem_cons_succ, Act.put, List.setIfInBounds_toArray, List.set_cons_zero, List.set_cons_succ])
        refine wpAnyH_take (i := 9) (v := ?_) rfl (by kernel_rfl) (by kernel_rfl) (by kernel_rfl) (fun _ _ _ h => h) (Or.inl ⟨by rfl, ?_⟩) (by assumption) ?_
        rotate_left
        · intro wq hSw; clear hSw; go_simp; (try with_reducible rfl)
        (try simp only [List.getElem_toArray, List.getElem_cons_zero, List.getElem_cons_succ, Act.put, List.setIfInBounds_toArray, List.set_cons_zero, List.set_cons_succ])
        refine wpAnyH_take (i := 11) (v := ?_) rfl (by kernel_rfl) (by kernel_rfl) (by kernel_rfl) (fun _ _ _ h => h) (Or.inl ⟨by rfl, ?_⟩) (by assumption) ?_
        rotate_left
        · intro wq hSw; clear hSw; go_simp; (try with_reducible rfl)
        (try simp only [List.getElem_toArray, List.getElem_cons_zero, List.getElem_cons_succ, Act.put, List.setIfInBounds_toArray, List.set_cons_zero, List.set_cons_succ])
        refine wpAnyH_ready (rs := [10]) (by kernel_rfl) (by simp) ?_
        refine AllReadyH.cons (i := 10) (by rfl) ?_ (AllReadyH.nil)
        intro K' hK
        simp only [List.getElem_toArray, List.getElem_cons_zero, List.getElem_cons_succ]
        refine if_yes (by kernel_rfl) ?_
        go_big_op
        (go_at_call 39; refine (HNX.out _ _ (m : Int) hTc (by omega) (by omega)).mono ?_; rintro e wi ⟨ri, rfl, ri0, ri1, ti, hti, hTd, hgc⟩)
        refine hK.out _ _ ?_ (fun hHeld2 => ?_)
        · exact ⟨(HG1.out _ _ hgc).cell hHeld.1 (by omega), hHeld.2.trans ((HG1.out _ _ hgc).mono (fun i _ e => Or.inl e))⟩
        clear hK K' hHeld
        have hHeld := hHeld2
        clear hHeld2
        (try simp only [List.getElem_toArray, List.getElem_cons_zero, List.getElem_cons_succ, Act.put, List.setIfInBounds_toArray, List.set_cons_zero, List.set_cons_succ])
        have hIc := own_onlyX hIc (HG1.out _ _ hgc) (fun i hi e => by have := (hIc.lt i hi).1; omega)
        have hTc := hTd
        clear hTd hgc
        obtain ⟨ix, rfl⟩ : ∃ ix : Nat, ri = ix := ⟨ri.toNat, by omega⟩
        have hixm : ix < m := by omega
        have i0 : (0 : Int) ≤ (ix : Int) := by omega
        have i1 : (ix : Int) < (m : Int) := by omega
        clear ri0 ri1
        refine wpAnyH_ready (rs := [12]) (by kernel_rfl) (by simp) ?_
        refine AllReadyH.cons (i := 12) (by rfl) ?_ (AllReadyH.nil)
        intro K' hK
        simp only [List.getElem_toArray, List.getElem_cons_zero, List.getElem_cons_succ]
        refine if_yes (by kernel_rfl) ?_
        go_big_op
        (go_at_call 39; refine (HNX.out _ _ 40 hTc (by omega) (by omega)).mono ?_; rintro e wv ⟨rv, rfl, rv0, rv1, tv, htv, hTd, hgc⟩)
        refine hK.out _ _ ?_ (fun hHeld2 => ?_)
        · exact ⟨(HG1.out _ _ hgc).cell hHeld.1 (by omega), hHeld.2.trans ((HG1.out _ _ hgc).mono (fun i _ e => Or.inl e))⟩
        clear hK K' hHeld
        have hHeld := hHeld2
        clear hHeld2
        (try simp only [List.getElem_toArray, List.getElem_cons_zero, List.getElem_cons_succ, Act.put, List.setIfInBounds_toArray, List.set_cons_zero, List.set_cons_succ])
        have hIc := own_onlyX hIc (HG1.out _ _ hgc) (fun i hi e => by have := (hIc.lt i hi).1; omega)
        have hTc := hTd
        clear hTd hgc
        obtain ⟨y, hix⟩ : ∃ y, ins[ix]? = some y := ⟨_, List.getElem?_eq_getElem (by have := HLI.out; omega)⟩
        have cst : wv.cell? ⟨bI, ix * 5 + 4, none⟩ = some (.int .u64 (U y.k)) := own_at (k := ix) (j := 4) hIc insCells_len hix rfl
        have cfr := own_free hIc
        have HIX := Lib.hid hix
        clear hix
        have wv : IntKind.u64.wrap rv = rv := IntWalk.u64_in _ ⟨by omega, by omega⟩
        refine wpAnyH_take (i := 13) (v := ?_) rfl (by kernel_rfl) (by kernel_rfl) (by kernel_rfl) (fun _ _ _ h => h) (Or.inl ⟨by rfl, ?_⟩) (by assumption) ?_
        rotate_left
        · intro wq hSw; clear hSw; go_simp; (try with_reducible rfl)
        (try simp only [List.getElem_toArray, List.getElem_cons_zero, List.getElem_cons_succ, Act.put, List.setIfInBounds_toArray, List.set_cons_zero, List.set_cons_succ])
        refine wpAnyH_take (i := 14) (v := ?_) rfl (by kernel_rfl) (by kernel_rfl) (by kernel_rfl) (fun _ _ _ h => h) (Or.inl ⟨by rfl, ?_⟩) (by assumption) ?_
        rotate_left
        · intro wq hSw; clear hSw; go_simp; (try with_reducible rfl)
        (try simp only [List.getElem_toArray, List.getElem_cons_zero, List.getElem_cons_succ, Act.put, List.setIfInBounds_toArray, List.set_cons_zero, List.set_cons_succ])
        refine wpAnyH_take (i := 15) (v := ?_) rfl (by kernel_rfl) (by kernel_rfl) (by kernel_rfl) (fun _ _ _ h => h) (Or.inl ⟨by rfl, ?_⟩) (by assumption) ?_
        rotate_left
        · intro wq hSw; clear hSw; go_simp; (try with_reducible rfl)
        (try simp only [List.getElem_toArray, List.getElem_cons_zero, List.getElem_cons_succ, Act.put, List.setIfInBounds_toArray, List.set_cons_zero, List.set_cons_succ])
        refine wpAnyH_ready (rs := [16]) (by kernel_rfl) (by simp) ?_
        refine AllReadyH.cons (i := 16) (by rfl) ?_ (AllReadyH.nil)
        intro K' hK
        simp only [List.getElem_toArray, List.getElem_cons_zero, List.getElem_cons_succ]
        refine if_yes (by kernel_rfl) ?_
        go_big_op
        refine hK.out _ _ ?_ (fun hHeld2 => ?_)
        · exact ⟨cell_far (by show bI ≠ bF; exact fun e => hne e.symm) hHeld.1, hHeld.2.set (p := ⟨bI, ix * 5 + 4, none⟩) (fun _ => Or.inr rfl) _⟩
        clear hK K' hHeld
        have hHeld := hHeld2
        clear hHeld2
        (try simp only [List.getElem_toArray, List.getElem_cons_zero, List.getElem_cons_succ, Act.put, List.setIfInBounds_toArray, List.set_cons_zero, List.set_cons_succ])
        refine wpAnyH_done (by kernel_rfl) ?_ _
        refine NoPanic.normal ?_
        clear wv
        have hXf : OnlyX (fun i => i = g ∨ i = bI) v8 _ := (OnlyX.refl.drew).trans hHeld.2
        have hFf := own_onlyX hF hXf (fun i hi e => by have h1 := (hF.lt i hi).1; have h2 : bF = i := Option.some.inj hi; rcases e with e | e <;> omega)
        have hIf0 := (hIc.stored (ix * 5 + 4) (.int .u64 rv)).1
        rw [flat_set insCells_len HIX.out (by omega) (show (insCells y).set 4 (.int .u64 rv) = insCells ⟨y.op, y.a, y.b, y.c, BitVec.ofInt 64 rv⟩ from by unfold insCells; dsimp only [List.set]; rw [U_ofInt rv (by omega) (by omega)])] at hIf0
        have hIf := hIf0
        have hLf := own_onlyX hL hXf (fun i hi e => by have h1 := (hL.lt i hi).1; rcases e with e | e; (· omega); (· exact HOT.out i hi e))
        have B2f := B2.onlyX (X := (fun i => i = g ∨ i = bI)) (by omega) hXf
        have R4f := R4.onlyX (X := (fun i => i = g ∨ i = bI)) (by omega) hXf
        have BPf := BP.onlyX (X := (fun i => i = g ∨ i = bI)) (by omega) hXf
        have hb1f := below_onlyX hb1 hXf (fun i hi e => by rcases e with e | e <;> omega)
        have hfok : Fn.ok ⟨p, locs, r, ins.set ix ⟨y.op, y.a, y.b, y.c, BitVec.ofInt 64 rv⟩⟩ := ⟨HFO.out.p, HFO.out.r, HFO.out.nl, by have := HFO.out.ni; dsimp only at this ⊢; rw [List.length_set]; exact this, fun z hz => by
          have hy := HFO.out.ins y (List.mem_of_getElem? HIX.out)
          rcases set_mem hz with rfl | hz
          · exact ⟨hy.1, hy.2.1, hy.2.2.1, hy.2.2.2⟩
          · exact HFO.out.ins z hz⟩
        clear hHeld hXf cst cfr hTc hIc hIf0
        obtain ⟨AL2, cL2, eL, hLR⟩ := Reads.own hLf
        injection eL with x1 x2 x3
        subst x1 x3
        obtain ⟨AI2, cI2, eI, hIR⟩ := Reads.own hIf
        injection eI with x1 x2 x3
        subst x1 x3
        have HJ := Lib.hid (warpJ_of HP.out HK.out hb1f h0b B2f R4f BPf hk hFf (f := ⟨p, locs, r, ins.set ix ⟨y.op, y.a, y.b, y.c, BitVec.ofInt 64 rv⟩⟩) ⟨rfl, rfl, hLR, hIR⟩ (fun b off _ e => by have := (hLf.lt b (congrArg (fun A => (Value.slice A n cL).ownBlock) e)).1; omega) (fun b off _ e => by have := (hIf.lt b (congrArg (fun A => (Value.slice A m cI).ownBlock) e)).1; omega) hfok (HP.out.nats.below hb1f |>.more hb1f.size) (fun b off hn e => by obtain ⟨b', off', e', hb', -⟩ := HP.out.nats.at_ hn; rw [e] at e'; cases e'; exact Or.inl hb') (by omega))
        clear hLR hIR hFf hLf hIf B2f R4f BPf hb1f hF hL hI hM BP B2 R4 hT1 hb1
        go_wp2_with fail
        go_meet
        exact HJ.out
    · as_aux_lemma =>
        obtain ⟨bL, capx, curx, hv, hgx, -, -, -, -, -⟩ := own_block hL (by omega) (by omega)
        injection hv with hv1 hv2 hv3
        subst hv1
        clear hv2 hv3
        have hne : bF ≠ bL := fun e => own_nb hF hL (by decide) bF rfl e
        have hOT := own_nb hI hL (by decide)
        have HOT := Lib.hid hOT
        have f9 : v8.cell? ⟨bF, k * 4 + 1, none⟩ = some (.slice (some ⟨bL, 0, none⟩) n cL) := own_at (j := 1) hF fcCells_len HYZ.out rfl
        have f9d : (World.drew v8).cell? ⟨bF, k * 4 + 1, none⟩ = some (.slice (some ⟨bL, 0, none⟩) n cL) := f9
        have hTc : TapeAt (World.drew v8) g t8 := hT1.below (Below.refl _ _).drew
        have hIc := own_keep hL (Below.refl _ _).drew
        clear hOT
        go_upto_region 30 with fail
        clear f9
        refine wp_region_noPanic ?_
        refine wp_region_held_drew (S := fun u => u.cell? ⟨bF, k * 4 + 1, none⟩ = some (.slice (some ⟨bL, 0, none⟩) n cL) ∧ OnlyX (fun i => i = g ∨ i = bL) (World.drew v8) u) (by kernel_rfl) (⟨f9d, OnlyX.refl⟩) (fun hHeld => ?_)
        clear f9d
        refine wpAnyH_take (i := 0) (v := ?_) rfl (by kernel_rfl) (by kernel_rfl) (by kernel_rfl) (fun _ _ _ h => h) (Or.inl ⟨by rfl, ?_⟩) (by assumption) ?_
        rotate_left
        · intro wq hSw; clear hSw; go_simp; (try with_reducible rfl)
        (try simp only [List.getElem_toArray, List.getElem_cons_zero, List.getElem_cons_succ, Act.put, List.setIfInBounds_toArray, List.set_cons_zero, List.set_cons_succ])
        refine wpAnyH_take (i := 1) (v := ?_) rfl (by kernel_rfl) (by kernel_rfl) (by kernel_rfl) (fun _ _ _ h => h) (Or.inl ⟨by rfl, ?_⟩) (by assumption) ?_
        rotate_left
        · intro wq hSw; clear hSw; go_simp; (try with_reducible rfl)
        (try simp only [List.getElem_toArray, List.getElem_cons_zero, List.getElem_cons_succ, Act.put, List.setIfInBounds_toArray, List.set_cons_zero, List.set_cons_succ])
        refine wpAnyH_take (i := 2) (v := ?_) rfl (by kernel_rfl) (by kernel_rfl) (by kernel_rfl) (fun _ _ _ h => h) (Or.inl ⟨by rfl, ?_⟩) (by assumption) ?_
        rotate_left
        · intro wq hSw; clear hSw; go_simp; (try with_reducible rfl)
        (try simp only [List.getElem_toArray, List.getElem_cons_zero, List.getElem_cons_succ, Act.put, List.setIfInBounds_toArray, List.set_cons_zero, List.set_cons_succ])
        refine wpAnyH_take (i := 3) (v := ?_) rfl (by kernel_rfl) (by kernel_rfl) (by kernel_rfl) (fun _ _ _ h => h) (Or.inl ⟨by rfl, ?_⟩) (by assumption) ?_
        rotate_left
        · intro wq hSw; have y1 := hSw.1; clear hSw; go_simp; (try with_reducible rfl)
        (try simp only [List.getElem_toArray, List.getElem_cons_zero, List.getElem_cons_succ, Act.put, List.setIfInBounds_toArray, List.set_cons_zero, List.set_cons_succ])
        refine wpAnyH_take (i := 4) (v := ?_) rfl (by kernel_rfl) (by kernel_rfl) (by kernel_rfl) (fun _ _ _ h => h) (Or.inl ⟨by rfl, ?_⟩) (by assumption) ?_
        rotate_left
        · intro wq hSw; clear hSw; go_simp; (try with_reducible rfl)
        (try simp only [List.getElem_toArray, List.getElem_cons_zero, List.getElem_cons_succ, Act.put, List.setIfInBounds_toArray, List.set_cons_zero, List.set_cons_succ])
        refine wpAnyH_take (i := 5) (v := ?_) rfl (by kernel_rfl) (by kernel_rfl) (by kernel_rfl) (fun _ _ _ h => h) (Or.inl ⟨by rfl, ?_⟩) (by assumption) ?_
        rotate_left
        · intro wq hSw; clear hSw; go_simp; (try with_reducible rfl)
        (try simp only [List.getElem_toArray, List.getElem_cons_zero, List.getElem_cons_succ, Act.put, List.setIfInBounds_toArray, List.set_cons_zero, List.set_cons_succ])
        refine wpAnyH_take (i := 6) (v := ?_) rfl (by kernel_rfl) (by kernel_rfl) (by kernel_rfl) (fun _ _ _ h => h) (Or.inl ⟨by rfl, ?_⟩) (by assumption) ?_
        rotate_left
        · intro wq hSw; clear hSw; go_simp; (try with_reducible rfl)
        (try simp only [List.getElem_toArray, List.getElem_cons_zero, List.getElem_cons_succ, Act.put, List.setIfInBounds_toArray, List.set_cons_zero, List.set_cons_succ])
        refine wpAnyH_take (i := 7) (v := ?_) rfl (by kernel_rfl) (by kernel_rfl) (by kernel_rfl) (fun _ _ _ h => h) (Or.inl ⟨by rfl, ?_⟩) (by assumption) ?_
        rotate_left
        · intro wq hSw; clear hSw; go_simp; (try with_reducible rfl)
        (try simp only [List.getElem_toArray, List.getElem_cons_zero, List.getElem_cons_succ, Act.put, List.setIfInBounds_toArray, List.set_cons_zero, List.set_cons_succ])
        refine wpAnyH_take (i := 8) (v := ?_) rfl (by kernel_rfl) (by kernel_rfl) (by kernel_rfl) (fun _ _ _ h => h) (Or.inl ⟨by rfl, ?_⟩) (by assumption) ?_
        rotate_left
        · intro wq hSw; have y1 := hSw.1; clear hSw; go_simp; (try with_reducible rfl)
        (try simp only [List.getElem_toArray, List.getElem_cons_zero, List.getElem_cons_succ, Act.put, List.setIfInBounds_toArray, List.set_cons_zero, List.set_cons_succ])
        refine wpAnyH_take (i := 9) (v := ?_) rfl (by kernel_rfl) (by kernel_rfl) (by kernel_rfl) (fun _ _ _ h => h) (Or.inl ⟨by rfl, ?_⟩) (by assumption) ?_
        rotate_left
        · intro wq hSw; clear hSw; go_simp; (try with_reducible rfl)
        (try simp only [List.getElem_toArray, List.getElem_cons_zero, List.getElem_cons_succ, Act.put, List.setIfInBounds_toArray, List.set_cons_zero, List.set_cons_succ])
        refine wpAnyH_take (i := 11) (v := ?_) rfl (by kernel_rfl) (by kernel_rfl) (by kernel_rfl) (fun _ _ _ h => h) (Or.inl ⟨by rfl, ?_⟩) (by assumption) ?_
        rotate_left
        · intro wq hSw; clear hSw; go_simp; (try with_reducible rfl)
        (try simp only [List.getElem_toArray, List.getElem_cons_zero, List.getElem_cons_succ, Act.put, List.setIfInBounds_toArray, List.set_cons_zero, List.set_cons_succ])
        refine wpAnyH_ready (rs := [10]) (by kernel_rfl) (by simp) ?_
        refine AllReadyH.cons (i := 10) (by rfl) ?_ (AllReadyH.nil)
        intro K' hK
        simp only [List.getElem_toArray, List.getElem_cons_zero, List.getElem_cons_succ]
        refine if_yes (by kernel_rfl) ?_
        go_big_op
        (go_at_call 39; refine (HNX.out _ _ (n : Int) hTc (by omega) (by omega)).mono ?_; rintro e wi ⟨ri, rfl, ri0, ri1, ti, hti, hTd, hgc⟩)
        refine hK.out _ _ ?_ (fun hHeld2 => ?_)
        · exact ⟨(HG1.out _ _ hgc).cell hHeld.1 (by omega), hHeld.2.trans ((HG1.out _ _ hgc).mono (fun i _ e => Or.inl e))⟩
        clear hK K' hHeld
        have hHeld := hHeld2
        clear hHeld2
        (try simp only [List.getElem_toArray, List.getElem_cons_zero, List.getElem_cons_succ, Act.put, List.setIfInBounds_toArray, List.set_cons_zero, List.set_cons_succ])
        have hIc := own_onlyX hIc (HG1.out _ _ hgc) (fun i hi e => by have := (hIc.lt i hi).1; omega)
        have hTc := hTd
        clear hTd hgc
        obtain ⟨ix, rfl⟩ : ∃ ix : Nat, ri = ix := ⟨ri.toNat, by omega⟩
        have hixm : ix < n := by omega
        have i0 : (0 : Int) ≤ (ix : Int) := by omega
        have i1 : (ix : Int) < (n : Int) := by omega
        clear ri0 ri1
        refine wpAnyH_ready (rs := [12]) (by kernel_rfl) (by simp) ?_
        refine AllReadyH.cons (i := 12) (by rfl) ?_ (AllReadyH.nil)
        intro K' hK
        simp only [List.getElem_toArray, List.getElem_cons_zero, List.getElem_cons_succ]
        refine if_yes (by kernel_rfl) ?_
        go_big_op
        (go_at_call 39; refine (HNX.out _ _ 4 hTc (by omega) (by omega)).mono ?_; rintro e wv ⟨rv, rfl, rv0, rv1, tv, htv, hTd, hgc⟩)
        refine hK.out _ _ ?_ (fun hHeld2 => ?_)
        · exact ⟨(HG1.out _ _ hgc).cell hHeld.1 (by omega), hHeld.2.trans ((HG1.out _ _ hgc).mono (fun i _ e => Or.inl e))⟩
        clear hK K' hHeld
        have hHeld := hHeld2
        clear hHeld2
        (try simp only [List.getElem_toArray, List.getElem_cons_zero, List.getElem_cons_succ, Act.put, List.setIfInBounds_toArray, List.set_cons_zero, List.set_cons_succ])
        have hIc := own_onlyX hIc (HG1.out _ _ hgc) (fun i hi e => by have := (hIc.lt i hi).1; omega)
        have hTc := hTd
        clear hTd hgc
        obtain ⟨y, hix⟩ : ∃ y, locs[ix]? = some y := ⟨_, List.getElem?_eq_getElem (by have := HLN.out; omega)⟩
        have cst : wv.cell? ⟨bL, ix, none⟩ = some (.int .i64 y) := (by have h1 := own_at (k := ix) (j := 0) hIc (fun _ => rfl) hix rfl; rw [Nat.mul_one, Nat.add_zero] at h1; exact h1)
        have cfr := own_free hIc
        have HIX := Lib.hid hix
        clear hix
        refine wpAnyH_take (i := 13) (v := ?_) rfl (by kernel_rfl) (by kernel_rfl) (by kernel_rfl) (fun _ _ _ h => h) (Or.inl ⟨by rfl, ?_⟩) (by assumption) ?_
        rotate_left
        · intro wq hSw; clear hSw; go_simp; (try with_reducible rfl)
        (try simp only [List.getElem_toArray, List.getElem_cons_zero, List.getElem_cons_succ, Act.put, List.setIfInBounds_toArray, List.set_cons_zero, List.set_cons_succ])
        refine wpAnyH_ready (rs := [14]) (by kernel_rfl) (by simp) ?_
        refine AllReadyH.cons (i := 14) (by rfl) ?_ (AllReadyH.nil)
        intro K' hK
        simp only [List.getElem_toArray, List.getElem_cons_zero, List.getElem_cons_succ]
        refine if_yes (by kernel_rfl) ?_
        go_big_op
        refine hK.out _ _ ?_ (fun hHeld2 => ?_)
        · exact ⟨cell_far (by show bL ≠ bF; exact fun e => hne e.symm) hHeld.1, hHeld.2.set (p := ⟨bL, ix, none⟩) (fun _ => Or.inr rfl) _⟩
        clear hK K' hHeld
        have hHeld := hHeld2
        clear hHeld2
        (try simp only [List.getElem_toArray, List.getElem_cons_zero, List.getElem_cons_succ, Act.put, List.setIfInBounds_toArray, List.set_cons_zero, List.set_cons_succ])
        refine wpAnyH_done (by kernel_rfl) ?_ _
        refine NoPanic.normal ?_
        have hXf : OnlyX (fun i => i = g ∨ i = bL) v8 _ := (OnlyX.refl.drew).trans hHeld.2
        have hFf := own_onlyX hF hXf (fun i hi e => by have h1 := (hF.lt i hi).1; have h2 : bF = i := Option.some.inj hi; rcases e with e | e <;> omega)
        have hIf0 := (hIc.stored ix (.int .i64 rv)).1
        rw [intCells_set] at hIf0
        have hLf := hIf0
        have hIf := own_onlyX hI hXf (fun i hi e => by have h1 := (hI.lt i hi).1; rcases e with e | e; (· omega); (· exact HOT.out i hi e))
        have B2f := B2.onlyX (X := (fun i => i = g ∨ i = bL)) (by omega) hXf
        have R4f := R4.onlyX (X := (fun i => i = g ∨ i = bL)) (by omega) hXf
        have BPf := BP.onlyX (X := (fun i => i = g ∨ i = bL)) (by omega) hXf
        have hb1f := below_onlyX hb1 hXf (fun i hi e => by rcases e with e | e <;> omega)
        have hfok : Fn.ok ⟨p, locs.set ix rv, r, ins⟩ := ⟨HFO.out.p, HFO.out.r, by have := HFO.out.nl; dsimp only at this ⊢; rw [List.length_set]; exact this, HFO.out.ni, HFO.out.ins⟩
        clear hHeld hXf cst cfr hTc hIc hIf0
        obtain ⟨AL2, cL2, eL, hLR⟩ := Reads.own hLf
        injection eL with x1 x2 x3
        subst x1 x3
        obtain ⟨AI2, cI2, eI, hIR⟩ := Reads.own hIf
        injection eI with x1 x2 x3
        subst x1 x3
        have HJ := Lib.hid (warpJ_of HP.out HK.out hb1f h0b B2f R4f BPf hk hFf (f := ⟨p, locs.set ix rv, r, ins⟩) ⟨rfl, rfl, hLR, hIR⟩ (fun b off _ e => by have := (hLf.lt b (congrArg (fun A => (Value.slice A n cL).ownBlock) e)).1; omega) (fun b off _ e => by have := (hIf.lt b (congrArg (fun A => (Value.slice A m cI).ownBlock) e)).1; omega) hfok (HP.out.nats.below hb1f |>.more hb1f.size) (fun b off hn e => by obtain ⟨b', off', e', hb', -⟩ := HP.out.nats.at_ hn; rw [e] at e'; cases e'; exact Or.inl hb') (by omega))
        clear hLR hIR hFf hLf hIf B2f R4f BPf hb1f hF hL hI hM BP B2 R4 hT1 hb1
        go_wp2_with fail
        go_meet
        exact HJ.out
    · as_aux_lemma =>
        have hLF := own_nb hL hF (by decide)
        have hIF := own_nb hI hF (by decide)
        have HLF2 := Lib.hid hLF
        have HIF2 := Lib.hid hIF
        clear hLF hIF
        go_wp2_with fail
        refine (HNX.out _ _ 6 hT1 (by omega) (by omega)).mono ?_
        rintro e v9 ⟨rv, rfl, rv0, rv1, t9, ht9, hT9, hgc⟩
        have wv : IntKind.i64.wrap (rv - 1) = rv - 1 := IntWalk.i64_in _ (by omega)
        have hFc := own_onlyX hF (HG1.out _ _ hgc) (fun i hi e => by have h1 := (hF.lt i hi).1; have h2 : bF = i := Option.some.inj hi; omega)
        have f0 : v9.cell? ⟨bF, k * 4, none⟩ = some (.int .i64 p) := own_at (j := 0) hFc fcCells_len HYZ.out rfl
        have cfr := own_free hFc
        have hXf : OnlyX (fun i => i = g ∨ i = bF) v8 (v9.setCell ⟨bF, k * 4, none⟩ (.int .i64 (rv - 1))) := ((HG1.out _ _ hgc).mono (Y := (fun i => i = g ∨ i = bF)) (fun i _ e => Or.inl e)).set (p := ⟨bF, k * 4, none⟩) (fun _ => Or.inr rfl) _
        have hFf0 := (hFc.stored (k * 4 + 0) (.int .i64 (rv - 1))).1
        rw [fcset0 HYZ.out, List.set_set] at hFf0
        have hFf : (v9.setCell ⟨bF, k * 4, none⟩ (.int .i64 (rv - 1))).ownsRow (bb + 3) 44 4 (.slice (some ⟨bF, 0, none⟩) nf cF) nf ((fcs.set k ⟨rv - 1, AL, n, cL, r, BI, m, cI⟩).flatMap fcCells) := hFf0
        have hLf := own_onlyX hL hXf (fun i hi e => by have h1 := (hL.lt i hi).1; rcases e with e | e; (· omega); (· exact HLF2.out i hi e))
        have hIf := own_onlyX hI hXf (fun i hi e => by have h1 := (hI.lt i hi).1; rcases e with e | e; (· omega); (· exact HIF2.out i hi e))
        have BPf := BP.onlyX (X := (fun i => i = g ∨ i = bF)) (by omega) hXf
        have B2f := B2.onlyX (X := (fun i => i = g ∨ i = bF)) (by omega) hXf
        have R4f := R4.onlyX (X := (fun i => i = g ∨ i = bF)) (by omega) hXf
        have hb1f := below_onlyX hb1 hXf (fun i hi e => by rcases e with e | e <;> omega)
        have hfok : Fn.ok ⟨rv - 1, locs, r, ins⟩ := ⟨by unfold I64; dsimp only; omega, HFO.out.r, HFO.out.nl, HFO.out.ni, HFO.out.ins⟩
        clear hXf hFf0 hFc hT9 hgc
        obtain ⟨AL2, cL2, eL, hLR⟩ := Reads.own hLf
        injection eL with x1 x2 x3
        subst x1 x3
        obtain ⟨AI2, cI2, eI, hIR⟩ := Reads.own hIf
        injection eI with x1 x2 x3
        subst x1 x3
        have HJ := Lib.hid (warpJ_of HP.out HK.out hb1f h0b B2f R4f BPf hk hFf (f := ⟨rv - 1, locs, r, ins⟩) ⟨rfl, rfl, hLR, hIR⟩ (fun b off _ e => by have := (hLf.lt b (congrArg (fun A => (Value.slice A n cL).ownBlock) e)).1; omega) (fun b off _ e => by have := (hIf.lt b (congrArg (fun A => (Value.slice A m cI).ownBlock) e)).1; omega) hfok (HP.out.nats.below hb1f |>.more hb1f.size) (fun b off hn e => by obtain ⟨b', off', e', hb', -⟩ := HP.out.nats.at_ hn; rw [e] at e'; cases e'; exact Or.inl hb') (by omega))
        clear hLR hIR hFf hLf hIf B2f R4f BPf hb1f hF hL hI hM BP B2 R4 hT1 hb1
        go_wp2_with fail
        go_meet
        exact HJ.out
    · as_aux_lemma =>
        obtain ⟨bI, capx, curx, hv, hgx, -, -, -, -, -⟩ := own_block hI (by omega) (by omega)
        injection hv with hv1 hv2 hv3
        subst hv1
        clear hv2 hv3
        obtain ⟨m', hm'⟩ : ∃ m', m = m' + 1 := ⟨m - 1, by omega⟩
        have hcm : m ≤ cI := (Reads.own hI).choose_spec.choose_spec.2.le |> fun h => by have e := (Reads.own hI).choose_spec.choose_spec.1; injection e with e1 e2 e3; rw [← e3] at h; exact h
        have hLF := own_nb hL hF (by decide)
        have hIF := own_nb hI hF (by decide)
        have HLF2 := Lib.hid hLF
        have HIF2 := Lib.hid hIF
        have HM' := Lib.hid hm'
        have f9 : (World.drew v8).cell? ⟨bF, k * 4 + 3, none⟩ = some (.slice (some ⟨bI, 0, none⟩) m cI) := own_at (j := 3) (own_keep hF (Below.refl _ _).drew) fcCells_len HYZ.out rfl
        have f9w : v8.cell? ⟨bF, k * 4 + 3, none⟩ = some (.slice (some ⟨bI, 0, none⟩) m cI) := own_at (j := 3) hF fcCells_len HYZ.out rfl
        have cfr := own_free hF
        have wv : IntKind.i64.wrap ((m : Int) - 1) = (m' : Int) := by rw [hm']; have := IntWalk.i64_in (m' : Int) (by omega); rw [show (((m' + 1 : Nat) : Int) - 1) = (m' : Int) by omega]; exact this
        have mi0 : (0 : Int) ≤ (m' : Int) := by omega
        have mi1 : (m' : Int) ≤ (cI : Int) := by omega
        have mi2 : m' ≤ cI := by omega
        clear hLF hIF hm'
        go_upto_region 34 with fail
        refine wp_region_noPanic ?_
        refine wp_region_held_drew (S := fun u => OnlyX (fun i => i = bF) (World.drew v8) u) (by kernel_rfl) (OnlyX.refl) (fun hHeld => ?_)
        refine wpAnyH_take (i := 0) (v := ?_) rfl (by kernel_rfl) (by kernel_rfl) (by kernel_rfl) (fun _ _ _ h => h) (Or.inl ⟨by rfl, ?_⟩) (by assumption) ?_
        rotate_left
        · intro wq hSw; clear hSw; go_simp; (try with_reducible rfl)
        (try simp only [List.getElem_toArray, List.getElem_cons_zero, List.getElem_cons_succ, Act.put, List.setIfInBounds_toArray, List.set_cons_zero, List.set_cons_succ])
        refine wpAnyH_take (i := 1) (v := ?_) rfl (by kernel_rfl) (by kernel_rfl) (by kernel_rfl) (fun _ _ _ h => h) (Or.inl ⟨by rfl, ?_⟩) (by assumption) ?_
        rotate_left
        · intro wq hSw; clear hSw; go_simp; (try with_reducible rfl)
        (try simp only [List.getElem_toArray, List.getElem_cons_zero, List.getElem_cons_succ, Act.put, List.setIfInBounds_toArray, List.set_cons_zero, List.set_cons_succ])
        refine wpAnyH_take (i := 2) (v := ?_) rfl (by kernel_rfl) (by kernel_rfl) (by kernel_rfl) (fun _ _ _ h => h) (Or.inl ⟨by rfl, ?_⟩) (by assumption) ?_
        rotate_left
        · intro wq hSw; clear hSw; go_simp; (try with_reducible rfl)
        (try simp only [List.getElem_toArray, List.getElem_cons_zero, List.getElem_cons_succ, Act.put, List.setIfInBounds_toArray, List.set_cons_zero, List.set_cons_succ])
        refine wpAnyH_take (i := 3) (v := ?_) rfl (by kernel_rfl) (by kernel_rfl) (by kernel_rfl) (fun _ _ _ h => h) (Or.inl ⟨by rfl, ?_⟩) (by assumption) ?_
        rotate_left
        · intro wq hSw; clear hSw; go_simp; (try with_reducible rfl)
        (try simp only [List.getElem_toArray, List.getElem_cons_zero, List.getElem_cons_succ, Act.put, List.setIfInBounds_toArray, List.set_cons_zero, List.set_cons_succ])
        refine wpAnyH_take (i := 5) (v := ?_) rfl (by kernel_rfl) (by kernel_rfl) (by kernel_rfl) (fun _ _ _ h => h) (Or.inl ⟨by rfl, ?_⟩) (by assumption) ?_
        rotate_left
        · intro wq hSw; clear hSw; go_simp; (try with_reducible rfl)
        (try simp only [List.getElem_toArray, List.getElem_cons_zero, List.getElem_cons_succ, Act.put, List.setIfInBounds_toArray, List.set_cons_zero, List.set_cons_succ])
        refine wpAnyH_take (i := 6) (v := ?_) rfl (by kernel_rfl) (by kernel_rfl) (by kernel_rfl) (fun _ _ _ h => h) (Or.inl ⟨by rfl, ?_⟩) (by assumption) ?_
        rotate_left
        · intro wq hSw; clear hSw; go_simp; (try with_reducible rfl)
        (try simp only [List.getElem_toArray, List.getElem_cons_zero, List.getElem_cons_succ, Act.put, List.setIfInBounds_toArray, List.set_cons_zero, List.set_cons_succ])
        refine wpAnyH_take (i := 7) (v := ?_) rfl (by kernel_rfl) (by kernel_rfl) (by kernel_rfl) (fun _ _ _ h => h) (Or.inl ⟨by rfl, ?_⟩) (by assumption) ?_
        rotate_left
        · intro wq hSw; clear hSw; go_simp; (try with_reducible rfl)
        (try simp only [List.getElem_toArray, List.getElem_cons_zero, List.getElem_cons_succ, Act.put, List.setIfInBounds_toArray, List.set_cons_zero, List.set_cons_succ])
        refine wpAnyH_ready (rs := [4, 8]) (by kernel_rfl) (by simp) ?_
        refine AllReadyH.cons (i := 4) (by rfl) ?_ (AllReadyH.cons (i := 8) (by rfl) ?_ (AllReadyH.nil))
        · skip
          intro K' hK
          simp only [List.getElem_toArray, List.getElem_cons_zero, List.getElem_cons_succ]
          refine if_yes (by kernel_rfl) ?_
          go_big_op
          refine hK.out _ _ ?_ (fun hHeld2 => ?_)
          · exact hHeld
          clear hK K' hHeld
          have hHeld := hHeld2
          clear hHeld2
          (try simp only [List.getElem_toArray, List.getElem_cons_zero, List.getElem_cons_succ, Act.put, List.setIfInBounds_toArray, List.set_cons_zero, List.set_cons_succ])
          refine wpAnyH_ready (rs := [8]) (by kernel_rfl) (by simp) ?_
          refine AllReadyH.cons (i := 8) (by rfl) ?_ (AllReadyH.nil)
          intro K' hK
          simp only [List.getElem_toArray, List.getElem_cons_zero, List.getElem_cons_succ]
          refine if_yes (by kernel_rfl) ?_
          go_big_op
          refine hK.out _ _ ?_ (fun hHeld2 => ?_)
          · exact hHeld
          clear hK K' hHeld
          have hHeld := hHeld2
          clear hHeld2
          (try simp only [List.getElem_toArray, List.getElem_cons_zero, List.getElem_cons_succ, Act.put, List.setIfInBounds_toArray, List.set_cons_zero, List.set_cons_succ])
          refine wpAnyH_take (i := 9) (v := ?_) rfl (by kernel_rfl) (by kernel_rfl) (by kernel_rfl) (fun _ _ _ h => h) (Or.inl ⟨by rfl, ?_⟩) (by assumption) ?_
          rotate_left
          · intro wq hSw; clear hSw; go_simp; (try with_reducible rfl)
          (try simp only [List.getElem_toArray, List.getElem_cons_zero, List.getElem_cons_succ, Act.put, List.setIfInBounds_toArray, List.set_cons_zero, List.set_cons_succ])
          refine wpAnyH_take (i := 10) (v := ?_) rfl (by kernel_rfl) (by kernel_rfl) (by kernel_rfl) (fun _ _ _ h => h) (Or.inl ⟨by rfl, ?_⟩) (by assumption) ?_
          rotate_left
          · intro wq hSw; clear hSw; go_simp; (try with_reducible rfl)
          (try simp only [List.getElem_toArray, List.getElem_cons_zero, List.getElem_cons_succ, Act.put, List.setIfInBounds_toArray, List.set_cons_zero, List.set_cons_succ])
          refine wpAnyH_take (i := 11) (v := ?_) rfl (by kernel_rfl) (by kernel_rfl) (by kernel_rfl) (fun _ _ _ h => h) (Or.inl ⟨by rfl, ?_⟩) (by assumption) ?_
          rotate_left
          · intro wq hSw; clear hSw; go_simp; (try with_reducible rfl)
          (try simp only [List.getElem_toArray, List.getElem_cons_zero, List.getElem_cons_succ, Act.put, List.setIfInBounds_toArray, List.set_cons_zero, List.set_cons_succ])
          refine wpAnyH_take (i := 12) (v := ?_) rfl (by kernel_rfl) (by kernel_rfl) (by kernel_rfl) (fun _ _ _ h => h) (Or.inl ⟨by rfl, ?_⟩) (by assumption) ?_
          rotate_left
          · intro wq hSw; clear hSw; go_simp; (try with_reducible rfl)
          (try simp only [List.getElem_toArray, List.getElem_cons_zero, List.getElem_cons_succ, Act.put, List.setIfInBounds_toArray, List.set_cons_zero, List.set_cons_succ])
          refine wpAnyH_take (i := 13) (v := ?_) rfl (by kernel_rfl) (by kernel_rfl) (by kernel_rfl) (fun _ _ _ h => h) (Or.inl ⟨by rfl, ?_⟩) (by assumption) ?_
          rotate_left
          · intro wq hSw; clear hSw; go_simp; (try with_reducible rfl)
          (try simp only [List.getElem_toArray, List.getElem_cons_zero, List.getElem_cons_succ, Act.put, List.setIfInBounds_toArray, List.set_cons_zero, List.set_cons_succ])
          refine wpAnyH_ready (rs := [14]) (by kernel_rfl) (by simp) ?_
          refine AllReadyH.cons (i := 14) (by rfl) ?_ (AllReadyH.nil)
          intro K' hK
          simp only [List.getElem_toArray, List.getElem_cons_zero, List.getElem_cons_succ]
          refine if_yes (by kernel_rfl) ?_
          go_big_op
          refine hK.out _ _ ?_ (fun hHeld2 => ?_)
          · exact hHeld.set (p := ⟨bF, k * 4 + 3, none⟩) (fun _ => rfl) _
          clear hK K' hHeld
          have hHeld := hHeld2
          clear hHeld2
          (try simp only [List.getElem_toArray, List.getElem_cons_zero, List.getElem_cons_succ, Act.put, List.setIfInBounds_toArray, List.set_cons_zero, List.set_cons_succ])
          refine wpAnyH_done (by kernel_rfl) ?_ _
          refine NoPanic.normal ?_
          clear wv
          have hXf : OnlyX (fun i => i = g ∨ i = bF) v8 (World.drew (v8.setCell ⟨bF, k * 4 + 3, none⟩ (.slice (some ⟨bI, 0, none⟩) m' cI))) := ((OnlyX.refl (X := (fun i => i = g ∨ i = bF))).set (p := ⟨bF, k * 4 + 3, none⟩) (fun _ => Or.inr rfl) (.slice (some ⟨bI, 0, none⟩) m' cI)).drew
          have hFf0 := own_keep (hF.stored (k * 4 + 3) (.slice (some ⟨bI, 0, none⟩) m' cI)).1 (Below.refl _ _).drew
          rw [fcset HYZ.out, List.set_set] at hFf0
          have hFf : (World.drew (v8.setCell ⟨bF, k * 4 + 3, none⟩ (.slice (some ⟨bI, 0, none⟩) m' cI))).ownsRow (bb + 3) 44 4 (.slice (some ⟨bF, 0, none⟩) nf cF) nf ((fcs.set k ⟨p, AL, n, cL, r, some ⟨bI, 0, none⟩, m', cI⟩).flatMap fcCells) := hFf0
          have hLf := own_onlyX hL hXf (fun i hi e => by have h1 := (hL.lt i hi).1; rcases e with e | e; (· omega); (· exact HLF2.out i hi e))
          have hIf0 := own_onlyX hI hXf (fun i hi e => by have h1 := (hI.lt i hi).1; rcases e with e | e; (· omega); (· exact HIF2.out i hi e))
          have hIf := own_cutM hIf0 (m := m') (by have := HM'.out; omega)
          rw [flat_take insCells_len] at hIf
          have BPf := BP.onlyX (X := (fun i => i = g ∨ i = bF)) (by omega) hXf
          have B2f := B2.onlyX (X := (fun i => i = g ∨ i = bF)) (by omega) hXf
          have R4f := R4.onlyX (X := (fun i => i = g ∨ i = bF)) (by omega) hXf
          have hb1f := below_onlyX hb1 hXf (fun i hi e => by rcases e with e | e <;> omega)
          have hfok : Fn.ok ⟨p, locs, r, ins.take m'⟩ := ⟨HFO.out.p, HFO.out.r, HFO.out.nl, by have := HFO.out.ni; dsimp only at this ⊢; rw [List.length_take]; omega, fun z hz => HFO.out.ins z (List.mem_of_mem_take hz)⟩
          clear hXf hFf0 hIf0 hHeld f9 f9w cfr
          obtain ⟨AL2, cL2, eL, hLR⟩ := Reads.own hLf
          injection eL with x1 x2 x3
          subst x1 x3
          obtain ⟨AI2, cI2, eI, hIR⟩ := Reads.own hIf
          injection eI with x1 x2 x3
          subst x1 x3
          have HJ := Lib.hid (warpJ_of HP.out HK.out hb1f h0b B2f R4f BPf hk hFf (f := ⟨p, locs, r, ins.take m'⟩) ⟨rfl, rfl, hLR, hIR⟩ (fun b off _ e => by have := (hLf.lt b (congrArg (fun A => (Value.slice A n cL).ownBlock) e)).1; omega) (fun b off _ e => by have := (hIf.lt b (congrArg (fun A => (Value.slice A m' cI).ownBlock) e)).1; omega) hfok (HP.out.nats.below hb1f |>.more hb1f.size) (fun b off hn e => by obtain ⟨b', off', e', hb', -⟩ := HP.out.nats.at_ hn; rw [e] at e'; cases e'; exact Or.inl hb') (by omega))
          clear hLR hIR hFf hLf hIf B2f R4f BPf hb1f hF hL hI hM BP B2 R4 hT1 hb1
          go_wp2_with fail
          go_meet
          exact HJ.out
        · skip
          intro K' hK
          simp only [List.getElem_toArray, List.getElem_cons_zero, List.getElem_cons_succ]
          refine if_yes (by kernel_rfl) ?_
          go_big_op
          refine hK.out _ _ ?_ (fun hHeld2 => ?_)
          · exact hHeld
          clear hK K' hHeld
          have hHeld := hHeld2
          clear hHeld2
          (try simp only [List.getElem_toArray, List.getElem_cons_zero, List.getElem_cons_succ, Act.put, List.setIfInBounds_toArray, List.set_cons_zero, List.set_cons_succ])
          refine wpAnyH_take (i := 9) (v := ?_) rfl (by kernel_rfl) (by kernel_rfl) (by kernel_rfl) (fun _ _ _ h => h) (Or.inl ⟨by rfl, ?_⟩) (by assumption) ?_
          rotate_left
          · intro wq hSw; clear hSw; go_simp; (try with_reducible rfl)
          (try simp only [List.getElem_toArray, List.getElem_cons_zero, List.getElem_cons_succ, Act.put, List.setIfInBounds_toArray, List.set_cons_zero, List.set_cons_succ])
          refine wpAnyH_take (i := 10) (v := ?_) rfl (by kernel_rfl) (by kernel_rfl) (by kernel_rfl) (fun _ _ _ h => h) (Or.inl ⟨by rfl, ?_⟩) (by assumption) ?_
          rotate_left
          · intro wq hSw; clear hSw; go_simp; (try with_reducible rfl)
          (try simp only [List.getElem_toArray, List.getElem_cons_zero, List.getElem_cons_succ, Act.put, List.setIfInBounds_toArray, List.set_cons_zero, List.set_cons_succ])
          refine wpAnyH_ready (rs := [4]) (by kernel_rfl) (by simp) ?_
          refine AllReadyH.cons (i := 4) (by rfl) ?_ (AllReadyH.nil)
          intro K' hK
          simp only [List.getElem_toArray, List.getElem_cons_zero, List.getElem_cons_succ]
          refine if_yes (by kernel_rfl) ?_
          go_big_op
          refine hK.out _ _ ?_ (fun hHeld2 => ?_)
          · exact hHeld
          clear hK K' hHeld
          have hHeld := hHeld2
          clear hHeld2
          (try simp only [List.getElem_toArray, List.getElem_cons_zero, List.getElem_cons_succ, Act.put, List.setIfInBounds_toArray, List.set_cons_zero, List.set_cons_succ])
          refine wpAnyH_take (i := 11) (v := ?_) rfl (by kernel_rfl) (by kernel_rfl) (by kernel_rfl) (fun _ _ _ h => h) (Or.inl ⟨by rfl, ?_⟩) (by assumption) ?_
          rotate_left
          · intro wq hSw; clear hSw; go_simp; (try with_reducible rfl)
          (try simp only [List.getElem_toArray, List.getElem_cons_zero, List.getElem_cons_succ, Act.put, List.setIfInBounds_toArray, List.set_cons_zero, List.set_cons_succ])
          refine wpAnyH_take (i := 12) (v := ?_) rfl (by kernel_rfl) (by kernel_rfl) (by kernel_rfl) (fun _ _ _ h => h) (Or.inl ⟨by rfl, ?_⟩) (by assumption) ?_
          rotate_left
          · intro wq hSw; clear hSw; go_simp; (try with_reducible rfl)
          (try simp only [List.getElem_toArray, List.getElem_cons_zero, List.getElem_cons_succ, Act.put, List.setIfInBounds_toArray, List.set_cons_zero, List.set_cons_succ])
          refine wpAnyH_take (i := 13) (v := ?_) rfl (by kernel_rfl) (by kernel_rfl) (by kernel_rfl) (fun _ _ _ h => h) (Or.inl ⟨by rfl, ?_⟩) (by assumption) ?_
          rotate_left
          · intro wq hSw; clear hSw; go_simp; (try with_reducible rfl)
          (try simp only [List.getElem_toArray, List.getElem_cons_zero, List.getElem_cons_succ, Act.put, List.setIfInBounds_toArray, List.set_cons_zero, List.set_cons_succ])
          refine wpAnyH_ready (rs := [14]) (by kernel_rfl) (by simp) ?_
          refine AllReadyH.cons (i := 14) (by rfl) ?_ (AllReadyH.nil)
          intro K' hK
          simp only [List.getElem_toArray, List.getElem_cons_zero, List.getElem_cons_succ]
          refine if_yes (by kernel_rfl) ?_
          go_big_op
          refine hK.out _ _ ?_ (fun hHeld2 => ?_)
          · exact hHeld.set (p := ⟨bF, k * 4 + 3, none⟩) (fun _ => rfl) _
          clear hK K' hHeld
          have hHeld := hHeld2
          clear hHeld2
          (try simp only [List.getElem_toArray, List.getElem_cons_zero, List.getElem_cons_succ, Act.put, List.setIfInBounds_toArray, List.set_cons_zero, List.set_cons_succ])
          refine wpAnyH_done (by kernel_rfl) ?_ _
          refine NoPanic.normal ?_
          clear wv
          have hXf : OnlyX (fun i => i = g ∨ i = bF) v8 (World.drew (v8.setCell ⟨bF, k * 4 + 3, none⟩ (.slice (some ⟨bI, 0, none⟩) m' cI))) := ((OnlyX.refl (X := (fun i => i = g ∨ i = bF))).set (p := ⟨bF, k * 4 + 3, none⟩) (fun _ => Or.inr rfl) (.slice (some ⟨bI, 0, none⟩) m' cI)).drew
          have hFf0 := own_keep (hF.stored (k * 4 + 3) (.slice (some ⟨bI, 0, none⟩) m' cI)).1 (Below.refl _ _).drew
          rw [fcset HYZ.out, List.set_set] at hFf0
          have hFf : (World.drew (v8.setCell ⟨bF, k * 4 + 3, none⟩ (.slice (some ⟨bI, 0, none⟩) m' cI))).ownsRow (bb + 3) 44 4 (.slice (some ⟨bF, 0, none⟩) nf cF) nf ((fcs.set k ⟨p, AL, n, cL, r, some ⟨bI, 0, none⟩, m', cI⟩).flatMap fcCells) := hFf0
          have hLf := own_onlyX hL hXf (fun i hi e => by have h1 := (hL.lt i hi).1; rcases e with e | e; (· omega); (· exact HLF2.out i hi e))
          have hIf0 := own_onlyX hI hXf (fun i hi e => by have h1 := (hI.lt i hi).1; rcases e with e | e; (· omega); (· exact HIF2.out i hi e))
          have hIf := own_cutM hIf0 (m := m') (by have := HM'.out; omega)
          rw [flat_take insCells_len] at hIf
          have BPf := BP.onlyX (X := (fun i => i = g ∨ i = bF)) (by omega) hXf
          have B2f := B2.onlyX (X := (fun i => i = g ∨ i = bF)) (by omega) hXf
          have R4f := R4.onlyX (X := (fun i => i = g ∨ i = bF)) (by omega) hXf
          have hb1f := below_onlyX hb1 hXf (fun i hi e => by rcases e with e | e <;> omega)
          have hfok : Fn.ok ⟨p, locs, r, ins.take m'⟩ := ⟨HFO.out.p, HFO.out.r, HFO.out.nl, by have := HFO.out.ni; dsimp only at this ⊢; rw [List.length_take]; omega, fun z hz => HFO.out.ins z (List.mem_of_mem_take hz)⟩
          clear hXf hFf0 hIf0 hHeld f9 f9w cfr
          obtain ⟨AL2, cL2, eL, hLR⟩ := Reads.own hLf
          injection eL with x1 x2 x3
          subst x1 x3
          obtain ⟨AI2, cI2, eI, hIR⟩ := Reads.own hIf
          injection eI with x1 x2 x3
          subst x1 x3
          have HJ := Lib.hid (warpJ_of HP.out HK.out hb1f h0b B2f R4f BPf hk hFf (f := ⟨p, locs, r, ins.take m'⟩) ⟨rfl, rfl, hLR, hIR⟩ (fun b off _ e => by have := (hLf.lt b (congrArg (fun A => (Value.slice A n cL).ownBlock) e)).1; omega) (fun b off _ e => by have := (hIf.lt b (congrArg (fun A => (Value.slice A m' cI).ownBlock) e)).1; omega) hfok (HP.out.nats.below hb1f |>.more hb1f.size) (fun b off hn e => by obtain ⟨b', off', e', hb', -⟩ := HP.out.nats.at_ hn; rw [e] at e'; cases e'; exact Or.inl hb') (by omega))
          clear hLR hIR hFf hLf hIf B2f R4f BPf hb1f hF hL hI hM BP B2 R4 hT1 hb1
          go_wp2_with fail
          go_meet
          exact HJ.out
    · as_aux_lemma =>
        have hm2 : (v8.alloc (.cells #[] 3)).ownsRow v8.heap.size 3 1 (.slice (some ⟨v8.heap.size, 0, none⟩) 0 0) 0 [] := World.ownsRow_made v8 #[] 0 (Nat.le_refl _) (by decide) rfl
        have hr2 := (HP.out.nats.below hb1 |>.more hb1.size).belowU (keep_alloc (Below.refl _ _) (.cells #[] 3))
        have hz2 : v8.heap.size ≤ (v8.alloc (.cells #[] 3)).heap.size := by simp
        have p2 : 0 + nn ≤ maxLen := by unfold maxLen; omega
        have q2 : (0 + nn) * 8 ≤ 140737488355328 := by omega
        have c1 := BP.cell 2 _ rfl
        have c1a := (BP.alloc (.cells #[] 3)).cell 2 _ rfl
        go_wp2_with (at_builtin; refine wpList_appB rfl _ _ _ (by rfl) tyInts (by rfl) hm2 (by rfl) hr2 one_int p2 q2 hz2 ?_; intro v' w2 hown2 hg2 hbk2; have hX2 : OnlyX (fun i => i = v8.heap.size) (v8.alloc (.cells #[] 3)) w2 := (OnlyX.grown hg2).mono (fun i _ hi => (Option.some.inj hi).symm); simp only [Nat.zero_add, List.nil_append] at hown2; obtain ⟨A2, c2, rfl, -⟩ := Reads.own hown2)
        have hX82 : OnlyX (fun i => i = g) v8 w2 := (OnlyX.refl.alloc (.cells #[] 3)).more hX2 (fun i hi e => by omega)
        have hTw := tape_onlyX (hT1.below (keep_alloc (Below.refl _ _) (.cells #[] 3))) hX2 (fun i hi e => by have := hT1.lt; omega)
        refine (HNX.out _ _ 5 hTw (by omega) (by omega)).mono ?_
        rintro e v9 ⟨rv, rfl, rv0, rv1, t9, ht9, hT9, hgc⟩
        have hown3 := own_onlyX hown2 (HG1.out _ _ hgc) (fun i hi e => by have h1 := (hown2.lt i hi).1; omega)
        have hX89 : OnlyX (fun i => i = g) v8 v9 := hX82.trans (HG1.out _ _ hgc)
        have hba : Below v9.heap.size v9 (v9.alloc (.cells #[.int .i64 rv] 3)) := keep_alloc (Below.refl _ _) _
        have hown4 := own_keep hown3 hba
        have hr4 := Reads.freshAs v9 #[.int .i64 rv] 3 1 1 [.int .i64 rv] rfl rfl (by decide)
        have hz4 : v8.heap.size ≤ (v9.alloc (.cells #[.int .i64 rv] 3)).heap.size := by have := hX89.size; have := hba.size; omega
        have p4 : nn + 1 ≤ maxLen := by unfold maxLen; omega
        have q4 : (nn + 1) * 8 ≤ 140737488355328 := by omega
        have hX8B := hX89.keep hba
        clear hm2 hr2 hz2 p2 q2 c1 c1a hg2 hbk2 hX2 hX82 hTw hown2 hown3 hT9 hgc
        go_wp2_with (at_builtin; refine wpList_appB rfl _ _ _ (by rfl) tyInts (by rfl) hown4 (by rfl) hr4 (by simp [Value.oneCell']) p4 q4 hz4 ?_; intro v' w10 hown10 hg10 hbk10; have hX10 : OnlyX (fun i => i = g) v8 w10 := hX8B.row hg10 (fun i hi hl => by have h1 := (hown4.lt i hi).1; omega); have BPw := BP.onlyX (X := fun i => i = g) (by omega) hX10; have c2 := BPw.cell 2 _ rfl; have cfr := BPw.free; obtain ⟨A10, c10, rfl, -⟩ := Reads.own hown10)
        have hXf : OnlyX (fun i => i = g ∨ i = bb + 1 + 1) v8 (w10.setCell ⟨bb + 1 + 1, 2, none⟩ (.slice A10 (nn + 1) c10)) := (hX10.mono (Y := (fun i => i = g ∨ i = bb + 1 + 1)) (fun i _ e => Or.inl e)).set (p := ⟨bb + 1 + 1, 2, none⟩) (fun _ => Or.inr rfl) _
        have BPf : Blk (w10.setCell ⟨bb + 1 + 1, 2, none⟩ (.slice A10 (nn + 1) c10)) (bb + 1 + 1) 26 #[.slice S ns cs, .slice (some ⟨bF, 0, none⟩) nf cF, .slice A10 (nn + 1) c10] := BPw.set 2 (.slice A10 (nn + 1) c10)
        have hN10 := ownsRow_setCell_below hown10 (a := ⟨bb + 1 + 1, 2, none⟩) (by show bb + 1 + 1 < v8.heap.size; omega) (.slice A10 (nn + 1) c10)
        have hN11 : (w10.setCell ⟨bb + 1 + 1, 2, none⟩ (.slice A10 (nn + 1) c10)).ownsRow v8.heap.size 3 1 (.slice A10 (nn + 1) c10) (nn + 1) ((P.nats ++ [rv]).flatMap intCells) := by rw [List.flatMap_append]; exact hN10
        obtain ⟨A12, c12, e12, hNR⟩ := Reads.own hN11
        injection e12 with x1 x2 x3
        subst x1 x3
        have hFf := own_onlyX hF hXf (fun i hi e => by have h1 := (hF.lt i hi).1; have h2 : bF = i := Option.some.inj hi; rcases e with e | e <;> omega)
        have hLf := own_onlyX hL hXf (fun i hi e => by have h1 := (hL.lt i hi).1; rcases e with e | e <;> omega)
        have hIf := own_onlyX hI hXf (fun i hi e => by have h1 := (hI.lt i hi).1; rcases e with e | e <;> omega)
        have B2f := B2.onlyX (X := (fun i => i = g ∨ i = bb + 1 + 1)) (by omega) hXf
        have R4f := R4.onlyX (X := (fun i => i = g ∨ i = bb + 1 + 1)) (by omega) hXf
        have hb1f := below_onlyX hb1 hXf (fun i hi e => by rcases e with e | e <;> omega)
        have hfok := HFO.out
        have hNb : ∀ b off, 0 < nn + 1 → A10 = some ⟨b, off, none⟩ → b < w0.heap.size ∨ bb + 1 < b := fun b off _ e => Or.inr (by have := (hN11.lt b (by rw [e]; rfl)).1; omega)
        clear hXf hX10 hN10 hown10 hown4 hg10 hbk10 hX8B BPw hX89
        obtain ⟨AL2, cL2, eL, hLR⟩ := Reads.own hLf
        injection eL with x1 x2 x3
        subst x1 x3
        obtain ⟨AI2, cI2, eI, hIR⟩ := Reads.own hIf
        injection eI with x1 x2 x3
        subst x1 x3
        have HJ := Lib.hid (warpJ_of HP.out HK.out hb1f h0b B2f R4f BPf hk hFf (f := ⟨p, locs, r, ins⟩) ⟨rfl, rfl, hLR, hIR⟩ (fun b off _ e => by have := (hLf.lt b (congrArg (fun A => (Value.slice A n cL).ownBlock) e)).1; omega) (fun b off _ e => by have := (hIf.lt b (congrArg (fun A => (Value.slice A m cI).ownBlock) e)).1; omega) hfok (hNR) (hNb) (by omega))
        clear hLR hIR hFf hLf hIf B2f R4f BPf hb1f hF hL hI hM BP B2 R4 hT1 hb1
        go_wp2_with fail
        go_meet
        exact HJ.out
    · as_aux_lemma =>
        have c3 := B2.cell 3 _ rfl
        by_cases hm0 : mm = 0
        · have s0 : decide ((0 : Int) < (mm : Int)) = false := decide_eq_false (by omega)
          have s0' : decide (0 < mm) = false := decide_eq_false (by omega)
          have hXf : OnlyX (fun i => i = g ∨ i = g) v8 v8 := OnlyX.refl
          have hFf := hF
          have hLf := hL
          have hIf := hI
          have BPf := BP
          have B2f := B2
          have R4f := R4
          have hb1f := hb1
          have hfok := HFO.out
          clear hXf hm0
          obtain ⟨AL2, cL2, eL, hLR⟩ := Reads.own hLf
          injection eL with x1 x2 x3
          subst x1 x3
          obtain ⟨AI2, cI2, eI, hIR⟩ := Reads.own hIf
          injection eI with x1 x2 x3
          subst x1 x3
          have HJ := Lib.hid (warpJ_of HP.out HK.out hb1f h0b B2f R4f BPf hk hFf (f := ⟨p, locs, r, ins⟩) ⟨rfl, rfl, hLR, hIR⟩ (fun b off _ e => by have := (hLf.lt b (congrArg (fun A => (Value.slice A n cL).ownBlock) e)).1; omega) (fun b off _ e => by have := (hIf.lt b (congrArg (fun A => (Value.slice A m cI).ownBlock) e)).1; omega) hfok (HP.out.nats.below hb1f |>.more hb1f.size) (fun b off hn e => by obtain ⟨b', off', e', hb', -⟩ := HP.out.nats.at_ hn; rw [e] at e'; cases e'; exact Or.inl hb') (by omega))
          clear hLR hIR hFf hLf hIf B2f R4f BPf hb1f hF hL hI hM BP B2 R4 hT1 hb1
          go_wp2_with fail
          go_meet
          exact HJ.out
        · have s0 : decide ((0 : Int) < (mm : Int)) = true := decide_eq_true (by omega)
          have s0' : decide (0 < mm) = true := decide_eq_true (by omega)
          obtain ⟨bM, capx, curx, hv, hgx, -, -, -, -, -⟩ := own_block hM (by omega) (by omega)
          injection hv with hv1 hv2 hv3
          subst hv1
          have HFN := Lib.hid (own_nb hF hM (by decide))
          have HLN := Lib.hid (own_nb hL hM (by decide))
          have HINN := Lib.hid (own_nb hI hM (by decide))
          have hTc : TapeAt (World.drew v8) g t8 := hT1.below (Below.refl _ _).drew
          have hMc := own_keep hM (Below.refl _ _).drew
          have c3d : (World.drew v8).cell? ⟨bb, 3, none⟩ = some (.slice (some ⟨bM, 0, none⟩) mm cM) := c3
          clear hv2 hv3
          go_upto_region 11 with fail
          clear c3
          refine wp_region_noPanic ?_
          refine wp_region_held_drew (S := fun u => u.cell? ⟨bb, 3, none⟩ = some (.slice (some ⟨bM, 0, none⟩) mm cM) ∧ OnlyX (fun i => i = g ∨ i = bM) (World.drew v8) u) (by kernel_rfl) (⟨c3d, OnlyX.refl⟩) (fun hHeld => ?_)
          clear c3d
          refine wpAnyH_take (i := 0) (v := ?_) rfl (by kernel_rfl) (by kernel_rfl) (by kernel_rfl) (fun _ _ _ h => h) (Or.inl ⟨by rfl, ?_⟩) (by assumption) ?_
          rotate_left
          · intro wq hSw; clear hSw; go_simp; (try with_reducible rfl)
          (try simp only [List.getElem_toArray, List.getElem_cons_zero, List.getElem_cons_succ, Act.put, List.setIfInBounds_toArray, List.set_cons_zero, List.set_cons_succ])
          refine wpAnyH_take (i := 1) (v := ?_) rfl (by kernel_rfl) (by kernel_rfl) (by kernel_rfl) (fun _ _ _ h => h) (Or.inl ⟨by rfl, ?_⟩) (by assumption) ?_
          rotate_left
          · intro wq hSw; have y1 := hSw.1; clear hSw; go_simp; (try with_reducible rfl)
          (try simp only [List.getElem_toArray, List.getElem_cons_zero, List.getElem_cons_succ, Act.put, List.setIfInBounds_toArray, List.set_cons_zero, List.set_cons_succ])
          refine wpAnyH_take (i := 2) (v := ?_) rfl (by kernel_rfl) (by kernel_rfl) (by kernel_rfl) (fun _ _ _ h => h) (Or.inl ⟨by rfl, ?_⟩) (by assumption) ?_
          rotate_left
          · intro wq hSw; clear hSw; go_simp; (try with_reducible rfl)
          (try simp only [List.getElem_toArray, List.getElem_cons_zero, List.getElem_cons_succ, Act.put, List.setIfInBounds_toArray, List.set_cons_zero, List.set_cons_succ])
          refine wpAnyH_take (i := 3) (v := ?_) rfl (by kernel_rfl) (by kernel_rfl) (by kernel_rfl) (fun _ _ _ h => h) (Or.inl ⟨by rfl, ?_⟩) (by assumption) ?_
          rotate_left
          · intro wq hSw; clear hSw; go_simp; (try with_reducible rfl)
          (try simp only [List.getElem_toArray, List.getElem_cons_zero, List.getElem_cons_succ, Act.put, List.setIfInBounds_toArray, List.set_cons_zero, List.set_cons_succ])
          refine wpAnyH_ready (rs := [4]) (by kernel_rfl) (by simp) ?_
          refine AllReadyH.cons (i := 4) (by rfl) ?_ (AllReadyH.nil)
          intro K' hK
          simp only [List.getElem_toArray, List.getElem_cons_zero, List.getElem_cons_succ]
          refine if_yes (by kernel_rfl) ?_
          go_big_op
          (go_at_call 39; refine (HNX.out _ _ (mm : Int) hTc (by omega) (by omega)).mono ?_; rintro e v9 ⟨ri, rfl, ri0, ri1, t9, ht9, hTd, hgc⟩)
          refine hK.out _ _ ?_ (fun hHeld2 => ?_)
          · exact ⟨(HG1.out _ _ hgc).cell hHeld.1 (by omega), hHeld.2.trans ((HG1.out _ _ hgc).mono (fun i _ e => Or.inl e))⟩
          clear hK K' hHeld
          have hHeld := hHeld2
          clear hHeld2
          (try simp only [List.getElem_toArray, List.getElem_cons_zero, List.getElem_cons_succ, Act.put, List.setIfInBounds_toArray, List.set_cons_zero, List.set_cons_succ])
          have hMc := own_onlyX hMc (HG1.out _ _ hgc) (fun i hi e => by have := (hMc.lt i hi).1; omega)
          have hTc := hTd
          clear hTd hgc
          obtain ⟨ix, rfl⟩ : ∃ ix : Nat, ri = ix := ⟨ri.toNat, by omega⟩
          have hixm : ix < mm := by omega
          have i0 : (0 : Int) ≤ (ix : Int) := by omega
          have i1 : (ix : Int) < (mm : Int) := by omega
          clear ri0 ri1
          refine wpAnyH_take (i := 5) (v := ?_) rfl (by kernel_rfl) (by kernel_rfl) (by kernel_rfl) (fun _ _ _ h => h) (Or.inl ⟨by rfl, ?_⟩) (by assumption) ?_
          rotate_left
          · intro wq hSw; clear hSw; go_simp; (try with_reducible rfl)
          (try simp only [List.getElem_toArray, List.getElem_cons_zero, List.getElem_cons_succ, Act.put, List.setIfInBounds_toArray, List.set_cons_zero, List.set_cons_succ])
          refine wpAnyH_take (i := 6) (v := ?_) rfl (by kernel_rfl) (by kernel_rfl) (by kernel_rfl) (fun _ _ _ h => h) (Or.inl ⟨by rfl, ?_⟩) (by assumption) ?_
          rotate_left
          · intro wq hSw; clear hSw; go_simp; (try with_reducible rfl)
          (try simp only [List.getElem_toArray, List.getElem_cons_zero, List.getElem_cons_succ, Act.put, List.setIfInBounds_toArray, List.set_cons_zero, List.set_cons_succ])
          refine wpAnyH_done (by kernel_rfl) ?_ _
          refine NoPanic.normal ?_
          have hX9 : OnlyX (fun i => i = g ∨ i = bM) v8 v9 := (OnlyX.refl.drew).trans hHeld.2
          have hs9 : v8.heap.size ≤ v9.heap.size := hX9.size
          have hbM8 : bM < v8.heap.size := (hM.lt bM rfl).2
          have hb9 := below_onlyX hb1 hX9 (fun i hi e => by rcases e with e | e <;> omega)
          obtain ⟨y, hy⟩ : ∃ y, ccs[ix]? = some y := ⟨_, List.getElem?_eq_getElem (by have := HLM.out; omega)⟩
          obtain ⟨⟨l9, hl9⟩, hn9⟩ := HC.out y (List.mem_of_getElem? hy)
          obtain ⟨ya, A9, n9, c9⟩ := y
          dsimp only at hl9 hn9
          have HY := Lib.hid hy
          have HL9 := Lib.hid hl9
          have f9 : v9.cell? ⟨bM, ix * 2 + 1, none⟩ = some (.slice A9 n9 c9) := own_at (j := 1) hMc ccCells_len HY.out rfl
          have HX9 := Lib.hid hX9
          clear hy hl9 hHeld hX9
          go_upto_region 12 with fail
          have hm2 : (v9.alloc (.cells #[] 95)).ownsRow v9.heap.size 95 5 (.slice (some ⟨v9.heap.size, 0, none⟩) 0 0) 0 [] := World.ownsRow_made v9 #[] 0 (Nat.le_refl _) (by decide) rfl
          have hr2 := (HL9.out.below hb9 |>.more hb9.size).belowU (keep_alloc (Below.refl _ _) (.cells #[] 95))
          have hz2 : v9.heap.size ≤ (v9.alloc (.cells #[] 95)).heap.size := by simp
          have p2 : 0 + n9 ≤ maxLen := by unfold maxLen; omega
          have q2 : (0 + n9) * 40 ≤ 140737488355328 := by omega
          have f9a : (v9.alloc (.cells #[] 95)).cell? ⟨bM, ix * 2 + 1, none⟩ = some (.slice A9 n9 c9) := own_at (j := 1) (own_keep hMc (keep_alloc (Below.refl _ _) _)) ccCells_len HY.out rfl
          go_upto_region 13 with (at_builtin; refine wpList_appB rfl _ _ _ (by rfl) tyRInsN (by rfl) hm2 (by rfl) hr2 one_ins p2 q2 hz2 ?_; intro v' w2 hown2 hg2 hbk2; have hX2 : OnlyX (fun i => i = v9.heap.size) (v9.alloc (.cells #[] 95)) w2 := (OnlyX.grown hg2).mono (fun i _ hi => (Option.some.inj hi).symm); have hD2 := own_onlyX (own_keep hMc (keep_alloc (Below.refl _ _) (.cells #[] 95))) hX2 (fun i hi e => by have := (hMc.lt i hi).2; omega); have c2 : w2.cell? ⟨bM, ix * 2 + 1, none⟩ = some (.slice A9 n9 c9) := own_at (j := 1) hD2 ccCells_len HY.out rfl; have cf2 := own_free hD2; simp only [Nat.zero_add, List.nil_append] at hown2; obtain ⟨A2, cQ, rfl, -⟩ := Reads.own hown2)
          have hX : OnlyX (fun i => i = bM) v9 (w2.setCell ⟨bM, ix * 2 + 1, none⟩ (.slice A2 n9 cQ)) := ((OnlyX.refl (X := (fun i => i = bM))).alloc (.cells #[] 95) |>.more hX2 (fun i hi e => by omega)).set (p := ⟨bM, ix * 2 + 1, none⟩) (fun _ => rfl) _
          have NEW := (hD2.stored (ix * 2 + 1) (.slice A2 n9 cQ)).1
          have hQ := own_store hown2 hD2 (by decide) (ix * 2 + 1) (.slice A2 n9 cQ)
          have HXA := Lib.hid hX
          clear hD2 c2 cf2 f9a f9
          obtain ⟨v10, hv2⟩ : ∃ v10, w2.setCell ⟨bM, ix * 2 + 1, none⟩ (.slice A2 n9 cQ) = v10 := ⟨_, rfl⟩
          rw [hv2] at hX NEW hQ HXA ⊢
          obtain ⟨AQ, hA2⟩ : ∃ A3, A2 = A3 := ⟨_, rfl⟩
          rw [hA2] at NEW hQ ⊢
          have hTc := tape_onlyX hTc hX (fun i hi e => by omega)
          have hsz10 : v9.heap.size ≤ v10.heap.size := hX.size
          clear hv2 hA2 hown2 hg2 hbk2 hm2 hr2 hz2 p2 q2 hX hX2
          rw [flat_set ccCells_len HY.out (j := 1) (a' := ⟨ya, AQ, n9, cQ⟩) (by omega) rfl] at NEW
          have hym : (ccs.set ix ⟨ya, AQ, n9, cQ⟩)[ix]? = some ⟨ya, AQ, n9, cQ⟩ := by rw [List.getElem?_set_self (List.getElem?_eq_some_iff.1 HY.out).1]
          have fq : v10.cell? ⟨bM, ix * 2 + 1, none⟩ = some (.slice AQ n9 cQ) := own_at (j := 1) NEW ccCells_len hym rfl
          have hX10 : OnlyX (fun i => i = g ∨ i = bM) v8 v10 := HX9.out.more HXA.out (fun i hi e => Or.inr e)
          have HX10 := Lib.hid hX10
          have hl9' := HL9.out.length insCells_len (by omega)
          have HLN9 := Lib.hid hl9'
          clear hym hX10 hl9' NEW hMc
          by_cases hn0 : n9 = 0
          · have s1 : decide ((0 : Int) < (n9 : Int)) = false := decide_eq_false (by omega)
            have s1' : decide (0 < n9) = false := decide_eq_false (by omega)
            have hXf := HX10.out
            have hFf := own_onlyX hF hXf (fun i hi e => by have h1 := (hF.lt i hi).1; rcases e with e | e; (· omega); (· exact HFN.out i hi e))
            have hLf := own_onlyX hL hXf (fun i hi e => by have h1 := (hL.lt i hi).1; rcases e with e | e; (· omega); (· exact HLN.out i hi e))
            have hIf := own_onlyX hI hXf (fun i hi e => by have h1 := (hI.lt i hi).1; rcases e with e | e; (· omega); (· exact HINN.out i hi e))
            have BPf := BP.onlyX (X := (fun i => i = g ∨ i = bM)) (by omega) hXf
            have B2f := B2.onlyX (X := (fun i => i = g ∨ i = bM)) (by omega) hXf
            have R4f := R4.onlyX (X := (fun i => i = g ∨ i = bM)) (by omega) hXf
            have hb1f := below_onlyX hb1 hXf (fun i hi e => by rcases e with e | e <;> omega)
            have hfok := HFO.out
            clear hXf hn0
            obtain ⟨AL2, cL2, eL, hLR⟩ := Reads.own hLf
            injection eL with x1 x2 x3
            subst x1 x3
            obtain ⟨AI2, cI2, eI, hIR⟩ := Reads.own hIf
            injection eI with x1 x2 x3
            subst x1 x3
            have HJ := Lib.hid (warpJ_of HP.out HK.out hb1f h0b B2f R4f BPf hk hFf (f := ⟨p, locs, r, ins⟩) ⟨rfl, rfl, hLR, hIR⟩ (fun b off _ e => by have := (hLf.lt b (congrArg (fun A => (Value.slice A n cL).ownBlock) e)).1; omega) (fun b off _ e => by have := (hIf.lt b (congrArg (fun A => (Value.slice A m cI).ownBlock) e)).1; omega) hfok (HP.out.nats.below hb1f |>.more hb1f.size) (fun b off hn e => by obtain ⟨b', off', e', hb', -⟩ := HP.out.nats.at_ hn; rw [e] at e'; cases e'; exact Or.inl hb') (by omega))
            clear hLR hIR hFf hLf hIf B2f R4f BPf hb1f hF hL hI hM BP B2 R4 hT1 hb1
            go_wp2_with fail
            go_meet
            exact HJ.out
          · have s1 : decide ((0 : Int) < (n9 : Int)) = true := decide_eq_true (by omega)
            have s1' : decide (0 < n9) = true := decide_eq_true (by omega)
            obtain ⟨bQ, capy, cury, hv, hgy, -, -, -, -, -⟩ := own_block hQ (by omega) (by omega)
            injection hv with hv1 hv2 hv3
            subst hv1
            have hTe : TapeAt (World.drew v10) g t9 := hTc.below (Below.refl _ _).drew
            have hQc := own_keep hQ (Below.refl _ _).drew
            have fqd : (World.drew v10).cell? ⟨bM, ix * 2 + 1, none⟩ = some (.slice (some ⟨bQ, 0, none⟩) n9 cQ) := fq
            clear hv2 hv3
            go_upto_region 14 with fail
            clear fq
            refine wp_region_noPanic ?_
            refine wp_region_held_drew (S := fun u => u.cell? ⟨bM, ix * 2 + 1, none⟩ = some (.slice (some ⟨bQ, 0, none⟩) n9 cQ) ∧ OnlyX (fun i => i = g) (World.drew v10) u) (by kernel_rfl) (⟨fqd, OnlyX.refl⟩) (fun hHeld => ?_)
            clear fqd
            refine wpAnyH_take (i := 0) (v := ?_) rfl (by kernel_rfl) (by kernel_rfl) (by kernel_rfl) (fun _ _ _ h => h) (Or.inl ⟨by rfl, ?_⟩) (by assumption) ?_
            rotate_left
            · intro wq hSw; clear hSw; go_simp; (try with_reducible rfl)
            (try simp only [List.getElem_toArray, List.getElem_cons_zero, List.getElem_cons_succ, Act.put, List.setIfInBounds_toArray, List.set_cons_zero, List.set_cons_succ])
            refine wpAnyH_take (i := 1) (v := ?_) rfl (by kernel_rfl) (by kernel_rfl) (by kernel_rfl) (fun _ _ _ h => h) (Or.inl ⟨by rfl, ?_⟩) (by assumption) ?_
            rotate_left
            · intro wq hSw; clear hSw; go_simp; (try with_reducible rfl)
            (try simp only [List.getElem_toArray, List.getElem_cons_zero, List.getElem_cons_succ, Act.put, List.setIfInBounds_toArray, List.set_cons_zero, List.set_cons_succ])
            refine wpAnyH_take (i := 2) (v := ?_) rfl (by kernel_rfl) (by kernel_rfl) (by kernel_rfl) (fun _ _ _ h => h) (Or.inl ⟨by rfl, ?_⟩) (by assumption) ?_
            rotate_left
            · intro wq hSw; clear hSw; go_simp; (try with_reducible rfl)
            (try simp only [List.getElem_toArray, List.getElem_cons_zero, List.getElem_cons_succ, Act.put, List.setIfInBounds_toArray, List.set_cons_zero, List.set_cons_succ])
            refine wpAnyH_take (i := 3) (v := ?_) rfl (by kernel_rfl) (by kernel_rfl) (by kernel_rfl) (fun _ _ _ h => h) (Or.inl ⟨by rfl, ?_⟩) (by assumption) ?_
            rotate_left
            · intro wq hSw; have y1 := hSw.1; clear hSw; go_simp; (try with_reducible rfl)
            (try simp only [List.getElem_toArray, List.getElem_cons_zero, List.getElem_cons_succ, Act.put, List.setIfInBounds_toArray, List.set_cons_zero, List.set_cons_succ])
            refine wpAnyH_take (i := 4) (v := ?_) rfl (by kernel_rfl) (by kernel_rfl) (by kernel_rfl) (fun _ _ _ h => h) (Or.inl ⟨by rfl, ?_⟩) (by assumption) ?_
            rotate_left
            · intro wq hSw; clear hSw; go_simp; (try with_reducible rfl)
            (try simp only [List.getElem_toArray, List.getElem_cons_zero, List.getElem_cons_succ, Act.put, List.setIfInBounds_toArray, List.set_cons_zero, List.set_cons_succ])
            refine wpAnyH_take (i := 5) (v := ?_) rfl (by kernel_rfl) (by kernel_rfl) (by kernel_rfl) (fun _ _ _ h => h) (Or.inl ⟨by rfl, ?_⟩) (by assumption) ?_
            rotate_left
            · intro wq hSw; clear hSw; go_simp; (try with_reducible rfl)
            (try simp only [List.getElem_toArray, List.getElem_cons_zero, List.getElem_cons_succ, Act.put, List.setIfInBounds_toArray, List.set_cons_zero, List.set_cons_succ])
            refine wpAnyH_take (i := 6) (v := ?_) rfl (by kernel_rfl) (by kernel_rfl) (by kernel_rfl) (fun _ _ _ h => h) (Or.inl ⟨by rfl, ?_⟩) (by assumption) ?_
            rotate_left
            · intro wq hSw; clear hSw; go_simp; (try with_reducible rfl)
            (try simp only [List.getElem_toArray, List.getElem_cons_zero, List.getElem_cons_succ, Act.put, List.setIfInBounds_toArray, List.set_cons_zero, List.set_cons_succ])
            refine wpAnyH_take (i := 7) (v := ?_) rfl (by kernel_rfl) (by kernel_rfl) (by kernel_rfl) (fun _ _ _ h => h) (Or.inl ⟨by rfl, ?_⟩) (by assumption) ?_
            rotate_left
            · intro wq hSw; clear hSw; go_simp; (try with_reducible rfl)
            (try simp only [List.getElem_toArray, List.getElem_cons_zero, List.getElem_cons_succ, Act.put, List.setIfInBounds_toArray, List.set_cons_zero, List.set_cons_succ])
            refine wpAnyH_take (i := 8) (v := ?_) rfl (by kernel_rfl) (by kernel_rfl) (by kernel_rfl) (fun _ _ _ h => h) (Or.inl ⟨by rfl, ?_⟩) (by assumption) ?_
            rotate_left
            · intro wq hSw; have y1 := hSw.1; clear hSw; go_simp; (try with_reducible rfl)
            (try simp only [List.getElem_toArray, List.getElem_cons_zero, List.getElem_cons_succ, Act.put, List.setIfInBounds_toArray, List.set_cons_zero, List.set_cons_succ])
            refine wpAnyH_take (i := 9) (v := ?_) rfl (by kernel_rfl) (by kernel_rfl) (by kernel_rfl) (fun _ _ _ h => h) (Or.inl ⟨by rfl, ?_⟩) (by assumption) ?_
            rotate_left
            · intro wq hSw; clear hSw; go_simp; (try with_reducible rfl)
            (try simp only [List.getElem_toArray, List.getElem_cons_zero, List.getElem_cons_succ, Act.put, List.setIfInBounds_toArray, List.set_cons_zero, List.set_cons_succ])
            refine wpAnyH_ready (rs := [10]) (by kernel_rfl) (by simp) ?_
            refine AllReadyH.cons (i := 10) (by rfl) ?_ (AllReadyH.nil)
            intro K' hK
            simp only [List.getElem_toArray, List.getElem_cons_zero, List.getElem_cons_succ]
            refine if_yes (by kernel_rfl) ?_
            go_big_op
            (go_at_call 39; refine (HNX.out _ _ (n9 : Int) hTe (by omega) (by omega)).mono ?_; rintro e v11 ⟨ri2, rfl, ri20, ri21, t11, ht11, hTd, hgc⟩)
            refine hK.out _ _ ?_ (fun hHeld2 => ?_)
            · exact ⟨(HG1.out _ _ hgc).cell hHeld.1 (by omega), hHeld.2.trans (HG1.out _ _ hgc)⟩
            clear hK K' hHeld
            have hHeld := hHeld2
            clear hHeld2
            (try simp only [List.getElem_toArray, List.getElem_cons_zero, List.getElem_cons_succ, Act.put, List.setIfInBounds_toArray, List.set_cons_zero, List.set_cons_succ])
            have hQc := own_onlyX hQc (HG1.out _ _ hgc) (fun i hi e => by have := (hQc.lt i hi).1; omega)
            have hTe := hTd
            clear hTd hgc
            obtain ⟨iy, rfl⟩ : ∃ iy : Nat, ri2 = iy := ⟨ri2.toNat, by omega⟩
            have hiym : iy < n9 := by omega
            have j0 : (0 : Int) ≤ (iy : Int) := by omega
            have j1 : (iy : Int) < (n9 : Int) := by omega
            clear ri20 ri21
            refine wpAnyH_take (i := 11) (v := ?_) rfl (by kernel_rfl) (by kernel_rfl) (by kernel_rfl) (fun _ _ _ h => h) (Or.inl ⟨by rfl, ?_⟩) (by assumption) ?_
            rotate_left
            · intro wq hSw; clear hSw; go_simp; (try with_reducible rfl)
            (try simp only [List.getElem_toArray, List.getElem_cons_zero, List.getElem_cons_succ, Act.put, List.setIfInBounds_toArray, List.set_cons_zero, List.set_cons_succ])
            refine wpAnyH_take (i := 12) (v := ?_) rfl (by kernel_rfl) (by kernel_rfl) (by kernel_rfl) (fun _ _ _ h => h) (Or.inl ⟨by rfl, ?_⟩) (by assumption) ?_
            rotate_left
            · intro wq hSw; clear hSw; go_simp; (try with_reducible rfl)
            (try simp only [List.getElem_toArray, List.getElem_cons_zero, List.getElem_cons_succ, Act.put, List.setIfInBounds_toArray, List.set_cons_zero, List.set_cons_succ])
            refine wpAnyH_done (by kernel_rfl) ?_ _
            refine NoPanic.normal ?_
            have hX11 : OnlyX (fun i => i = g ∨ i = bM) v8 v11 := HX10.out.trans ((OnlyX.refl.drew).trans hHeld.2 |>.mono (Y := (fun i => i = g ∨ i = bM)) (fun i _ e => Or.inl e))
            have HX11 := Lib.hid hX11
            clear hHeld hX11
            go_wp2_with fail
            refine (HNX.out _ _ 4 hTe (by omega) (by omega)).mono ?_
            rintro e v12 ⟨rs, rfl, rs0, rs1, t12, ht12, hTg, hgd⟩
            have hQd := own_onlyX hQc (HG1.out _ _ hgd) (fun i hi e => by have := (hQc.lt i hi).1; omega)
            have HX12 := Lib.hid (HX11.out.trans ((HG1.out _ _ hgd).mono (Y := (fun i => i = g ∨ i = bM)) (fun i _ e => Or.inl e)))
            have h4 : rs = 0 ∨ rs = 1 ∨ rs = 2 ∨ rs = 3 := by omega
            clear rs0 rs1 hgd hTe
            rcases h4 with rfl | rfl | rfl | rfl
            · go_wp2_with fail
              refine (HNX.out _ _ 20 hTg (by omega) (by omega)).mono ?_
              rintro e v13 ⟨rv, rfl, rv0, rv1, t13, ht13, hTh, hge⟩
              have hQe := own_onlyX hQd (HG1.out _ _ hge) (fun i hi e => by have := (hQd.lt i hi).1; omega)
              obtain ⟨y, hiy⟩ : ∃ y, l9[iy]? = some y := ⟨_, List.getElem?_eq_getElem (by have := HLN9.out; omega)⟩
              have cst : v13.cell? ⟨bQ, iy * 5, none⟩ = some (.int .i64 y.op) := own_at (k := iy) (j := 0) hQe insCells_len hiy rfl
              have cfr := own_free hQe
              have hXf : OnlyX (fun i => i = g ∨ i = bM) v8 (v13.setCell ⟨bQ, iy * 5, none⟩ (.int .i64 rv)) := ((HX12.out.trans ((HG1.out _ _ hge).mono (Y := (fun i => i = g ∨ i = bM)) (fun i _ e => Or.inl e))).set (p := ⟨bQ, iy * 5, none⟩) (fun h => by have h' : bQ < v8.heap.size := h; omega) _)
              have hFf := own_onlyX hF hXf (fun i hi e => by have h1 := (hF.lt i hi).1; rcases e with e | e; (· omega); (· exact HFN.out i hi e))
              have hLf := own_onlyX hL hXf (fun i hi e => by have h1 := (hL.lt i hi).1; rcases e with e | e; (· omega); (· exact HLN.out i hi e))
              have hIf := own_onlyX hI hXf (fun i hi e => by have h1 := (hI.lt i hi).1; rcases e with e | e; (· omega); (· exact HINN.out i hi e))
              have BPf := BP.onlyX (X := (fun i => i = g ∨ i = bM)) (by omega) hXf
              have B2f := B2.onlyX (X := (fun i => i = g ∨ i = bM)) (by omega) hXf
              have R4f := R4.onlyX (X := (fun i => i = g ∨ i = bM)) (by omega) hXf
              have hb1f := below_onlyX hb1 hXf (fun i hi e => by rcases e with e | e <;> omega)
              have hfok := HFO.out
              clear hXf hiy hge hTh
              obtain ⟨AL2, cL2, eL, hLR⟩ := Reads.own hLf
              injection eL with x1 x2 x3
              subst x1 x3
              obtain ⟨AI2, cI2, eI, hIR⟩ := Reads.own hIf
              injection eI with x1 x2 x3
              subst x1 x3
              have HJ := Lib.hid (warpJ_of HP.out HK.out hb1f h0b B2f R4f BPf hk hFf (f := ⟨p, locs, r, ins⟩) ⟨rfl, rfl, hLR, hIR⟩ (fun b off _ e => by have := (hLf.lt b (congrArg (fun A => (Value.slice A n cL).ownBlock) e)).1; omega) (fun b off _ e => by have := (hIf.lt b (congrArg (fun A => (Value.slice A m cI).ownBlock) e)).1; omega) hfok (HP.out.nats.below hb1f |>.more hb1f.size) (fun b off hn e => by obtain ⟨b', off', e', hb', -⟩ := HP.out.nats.at_ hn; rw [e] at e'; cases e'; exact Or.inl hb') (by omega))
              clear hLR hIR hFf hLf hIf B2f R4f BPf hb1f hF hL hI hM BP B2 R4 hT1 hb1
              go_wp2_with fail
              go_meet
              exact HJ.out
            · go_wp2_with fail
              refine (HNX.out _ _ 30 hTg (by omega) (by omega)).mono ?_
              rintro e v13 ⟨rv, rfl, rv0, rv1, t13, ht13, hTh, hge⟩
              have hQe := own_onlyX hQd (HG1.out _ _ hge) (fun i hi e => by have := (hQd.lt i hi).1; omega)
              obtain ⟨y, hiy⟩ : ∃ y, l9[iy]? = some y := ⟨_, List.getElem?_eq_getElem (by have := HLN9.out; omega)⟩
              have cst : v13.cell? ⟨bQ, iy * 5 + 2, none⟩ = some (.int .i64 y.b) := own_at (k := iy) (j := 2) hQe insCells_len hiy rfl
              have cfr := own_free hQe
              have hXf : OnlyX (fun i => i = g ∨ i = bM) v8 (v13.setCell ⟨bQ, iy * 5 + 2, none⟩ (.int .i64 (rv - 1))) := ((HX12.out.trans ((HG1.out _ _ hge).mono (Y := (fun i => i = g ∨ i = bM)) (fun i _ e => Or.inl e))).set (p := ⟨bQ, iy * 5 + 2, none⟩) (fun h => by have h' : bQ < v8.heap.size := h; omega) _)
              have hFf := own_onlyX hF hXf (fun i hi e => by have h1 := (hF.lt i hi).1; rcases e with e | e; (· omega); (· exact HFN.out i hi e))
              have hLf := own_onlyX hL hXf (fun i hi e => by have h1 := (hL.lt i hi).1; rcases e with e | e; (· omega); (· exact HLN.out i hi e))
              have hIf := own_onlyX hI hXf (fun i hi e => by have h1 := (hI.lt i hi).1; rcases e with e | e; (· omega); (· exact HINN.out i hi e))
              have BPf := BP.onlyX (X := (fun i => i = g ∨ i = bM)) (by omega) hXf
              have B2f := B2.onlyX (X := (fun i => i = g ∨ i = bM)) (by omega) hXf
              have R4f := R4.onlyX (X := (fun i => i = g ∨ i = bM)) (by omega) hXf
              have hb1f := below_onlyX hb1 hXf (fun i hi e => by rcases e with e | e <;> omega)
              have hfok := HFO.out
              have wv : IntKind.i64.wrap (rv - 1) = rv - 1 := IntWalk.i64_in _ (by omega)
              clear hXf hiy hge hTh
              obtain ⟨AL2, cL2, eL, hLR⟩ := Reads.own hLf
              injection eL with x1 x2 x3
              subst x1 x3
              obtain ⟨AI2, cI2, eI, hIR⟩ := Reads.own hIf
              injection eI with x1 x2 x3
              subst x1 x3
              have HJ := Lib.hid (warpJ_of HP.out HK.out hb1f h0b B2f R4f BPf hk hFf (f := ⟨p, locs, r, ins⟩) ⟨rfl, rfl, hLR, hIR⟩ (fun b off _ e => by have := (hLf.lt b (congrArg (fun A => (Value.slice A n cL).ownBlock) e)).1; omega) (fun b off _ e => by have := (hIf.lt b (congrArg (fun A => (Value.slice A m cI).ownBlock) e)).1; omega) hfok (HP.out.nats.below hb1f |>.more hb1f.size) (fun b off hn e => by obtain ⟨b', off', e', hb', -⟩ := HP.out.nats.at_ hn; rw [e] at e'; cases e'; exact Or.inl hb') (by omega))
              clear hLR hIR hFf hLf hIf B2f R4f BPf hb1f hF hL hI hM BP B2 R4 hT1 hb1
              go_wp2_with fail
              go_meet
              exact HJ.out
            · go_wp2_with fail
              refine (HNX.out _ _ 10 hTg (by omega) (by omega)).mono ?_
              rintro e v13 ⟨rv, rfl, rv0, rv1, t13, ht13, hTh, hge⟩
              have hQe := own_onlyX hQd (HG1.out _ _ hge) (fun i hi e => by have := (hQd.lt i hi).1; omega)
              obtain ⟨y, hiy⟩ : ∃ y, l9[iy]? = some y := ⟨_, List.getElem?_eq_getElem (by have := HLN9.out; omega)⟩
              have cst : v13.cell? ⟨bQ, iy * 5 + 3, none⟩ = some (.int .i64 y.c) := own_at (k := iy) (j := 3) hQe insCells_len hiy rfl
              have cfr := own_free hQe
              have hXf : OnlyX (fun i => i = g ∨ i = bM) v8 (v13.setCell ⟨bQ, iy * 5 + 3, none⟩ (.int .i64 rv)) := ((HX12.out.trans ((HG1.out _ _ hge).mono (Y := (fun i => i = g ∨ i = bM)) (fun i _ e => Or.inl e))).set (p := ⟨bQ, iy * 5 + 3, none⟩) (fun h => by have h' : bQ < v8.heap.size := h; omega) _)
              have hFf := own_onlyX hF hXf (fun i hi e => by have h1 := (hF.lt i hi).1; rcases e with e | e; (· omega); (· exact HFN.out i hi e))
              have hLf := own_onlyX hL hXf (fun i hi e => by have h1 := (hL.lt i hi).1; rcases e with e | e; (· omega); (· exact HLN.out i hi e))
              have hIf := own_onlyX hI hXf (fun i hi e => by have h1 := (hI.lt i hi).1; rcases e with e | e; (· omega); (· exact HINN.out i hi e))
              have BPf := BP.onlyX (X := (fun i => i = g ∨ i = bM)) (by omega) hXf
              have B2f := B2.onlyX (X := (fun i => i = g ∨ i = bM)) (by omega) hXf
              have R4f := R4.onlyX (X := (fun i => i = g ∨ i = bM)) (by omega) hXf
              have hb1f := below_onlyX hb1 hXf (fun i hi e => by rcases e with e | e <;> omega)
              have hfok := HFO.out
              clear hXf hiy hge hTh
              obtain ⟨AL2, cL2, eL, hLR⟩ := Reads.own hLf
              injection eL with x1 x2 x3
              subst x1 x3
              obtain ⟨AI2, cI2, eI, hIR⟩ := Reads.own hIf
              injection eI with x1 x2 x3
              subst x1 x3
              have HJ := Lib.hid (warpJ_of HP.out HK.out hb1f h0b B2f R4f BPf hk hFf (f := ⟨p, locs, r, ins⟩) ⟨rfl, rfl, hLR, hIR⟩ (fun b off _ e => by have := (hLf.lt b (congrArg (fun A => (Value.slice A n cL).ownBlock) e)).1; omega) (fun b off _ e => by have := (hIf.lt b (congrArg (fun A => (Value.slice A m cI).ownBlock) e)).1; omega) hfok (HP.out.nats.below hb1f |>.more hb1f.size) (fun b off hn e => by obtain ⟨b', off', e', hb', -⟩ := HP.out.nats.at_ hn; rw [e] at e'; cases e'; exact Or.inl hb') (by omega))
              clear hLR hIR hFf hLf hIf B2f R4f BPf hb1f hF hL hI hM BP B2 R4 hT1 hb1
              go_wp2_with fail
              go_meet
              exact HJ.out
            · go_wp2_with fail
              refine (HNX.out _ _ 40 hTg (by omega) (by omega)).mono ?_
              rintro e v13 ⟨rv, rfl, rv0, rv1, t13, ht13, hTh, hge⟩
              have hQe := own_onlyX hQd (HG1.out _ _ hge) (fun i hi e => by have := (hQd.lt i hi).1; omega)
              obtain ⟨y, hiy⟩ : ∃ y, l9[iy]? = some y := ⟨_, List.getElem?_eq_getElem (by have := HLN9.out; omega)⟩
              have cst : v13.cell? ⟨bQ, iy * 5 + 4, none⟩ = some (.int .u64 (U y.k)) := own_at (k := iy) (j := 4) hQe insCells_len hiy rfl
              have cfr := own_free hQe
              have hXf : OnlyX (fun i => i = g ∨ i = bM) v8 (v13.setCell ⟨bQ, iy * 5 + 4, none⟩ (.int .u64 rv)) := ((HX12.out.trans ((HG1.out _ _ hge).mono (Y := (fun i => i = g ∨ i = bM)) (fun i _ e => Or.inl e))).set (p := ⟨bQ, iy * 5 + 4, none⟩) (fun h => by have h' : bQ < v8.heap.size := h; omega) _)
              have hFf := own_onlyX hF hXf (fun i hi e => by have h1 := (hF.lt i hi).1; rcases e with e | e; (· omega); (· exact HFN.out i hi e))
              have hLf := own_onlyX hL hXf (fun i hi e => by have h1 := (hL.lt i hi).1; rcases e with e | e; (· omega); (· exact HLN.out i hi e))
              have hIf := own_onlyX hI hXf (fun i hi e => by have h1 := (hI.lt i hi).1; rcases e with e | e; (· omega); (· exact HINN.out i hi e))
              have BPf := BP.onlyX (X := (fun i => i = g ∨ i = bM)) (by omega) hXf
              have B2f := B2.onlyX (X := (fun i => i = g ∨ i = bM)) (by omega) hXf
              have R4f := R4.onlyX (X := (fun i => i = g ∨ i = bM)) (by omega) hXf
              have hb1f := below_onlyX hb1 hXf (fun i hi e => by rcases e with e | e <;> omega)
              have hfok := HFO.out
              have wv : IntKind.u64.wrap rv = rv := IntWalk.u64_in _ ⟨by omega, by omega⟩
              clear hXf hiy hge hTh
              obtain ⟨AL2, cL2, eL, hLR⟩ := Reads.own hLf
              injection eL with x1 x2 x3
              subst x1 x3
              obtain ⟨AI2, cI2, eI, hIR⟩ := Reads.own hIf
              injection eI with x1 x2 x3
              subst x1 x3
              have HJ := Lib.hid (warpJ_of HP.out HK.out hb1f h0b B2f R4f BPf hk hFf (f := ⟨p, locs, r, ins⟩) ⟨rfl, rfl, hLR, hIR⟩ (fun b off _ e => by have := (hLf.lt b (congrArg (fun A => (Value.slice A n cL).ownBlock) e)).1; omega) (fun b off _ e => by have := (hIf.lt b (congrArg (fun A => (Value.slice A m cI).ownBlock) e)).1; omega) hfok (HP.out.nats.below hb1f |>.more hb1f.size) (fun b off hn e => by obtain ⟨b', off', e', hb', -⟩ := HP.out.nats.at_ hn; rw [e] at e'; cases e'; exact Or.inl hb') (by omega))
              clear hLR hIR hFf hLf hIf B2f R4f BPf hb1f hF hL hI hM BP B2 R4 hT1 hb1
              go_wp2_with fail
              go_meet
              exact HJ.out
    · as_aux_lemma =>
        have c3 := B2.cell 3 _ rfl
        by_cases hm0 : mm = 0
        · have s0 : decide ((0 : Int) < (mm : Int)) = false := decide_eq_false (by omega)
          have s0' : decide (0 < mm) = false := decide_eq_false (by omega)
          have hXf : OnlyX (fun i => i = g ∨ i = g) v8 v8 := OnlyX.refl
          have hFf := hF
          have hLf := hL
          have hIf := hI
          have BPf := BP
          have B2f := B2
          have R4f := R4
          have hb1f := hb1
          have hfok := HFO.out
          clear hXf hm0
          obtain ⟨AL2, cL2, eL, hLR⟩ := Reads.own hLf
          injection eL with x1 x2 x3
          subst x1 x3
          obtain ⟨AI2, cI2, eI, hIR⟩ := Reads.own hIf
          injection eI with x1 x2 x3
          subst x1 x3
          have HJ := Lib.hid (warpJ_of HP.out HK.out hb1f h0b B2f R4f BPf hk hFf (f := ⟨p, locs, r, ins⟩) ⟨rfl, rfl, hLR, hIR⟩ (fun b off _ e => by have := (hLf.lt b (congrArg (fun A => (Value.slice A n cL).ownBlock) e)).1; omega) (fun b off _ e => by have := (hIf.lt b (congrArg (fun A => (Value.slice A m cI).ownBlock) e)).1; omega) hfok (HP.out.nats.below hb1f |>.more hb1f.size) (fun b off hn e => by obtain ⟨b', off', e', hb', -⟩ := HP.out.nats.at_ hn; rw [e] at e'; cases e'; exact Or.inl hb') (by omega))
          clear hLR hIR hFf hLf hIf B2f R4f BPf hb1f hF hL hI hM BP B2 R4 hT1 hb1
          go_wp2_with fail
          go_meet
          exact HJ.out
        · have s0 : decide ((0 : Int) < (mm : Int)) = true := decide_eq_true (by omega)
          have s0' : decide (0 < mm) = true := decide_eq_true (by omega)
          obtain ⟨bM, capx, curx, hv, hgx, -, -, -, -, -⟩ := own_block hM (by omega) (by omega)
          injection hv with hv1 hv2 hv3
          subst hv1
          have HFN := Lib.hid (own_nb hF hM (by decide))
          have HLN := Lib.hid (own_nb hL hM (by decide))
          have HINN := Lib.hid (own_nb hI hM (by decide))
          have hTc : TapeAt (World.drew v8) g t8 := hT1.below (Below.refl _ _).drew
          have hMc := own_keep hM (Below.refl _ _).drew
          have c3d : (World.drew v8).cell? ⟨bb, 3, none⟩ = some (.slice (some ⟨bM, 0, none⟩) mm cM) := c3
          clear hv2 hv3
          go_upto_region 11 with fail
          clear c3
          refine wp_region_noPanic ?_
          refine wp_region_held_drew (S := fun u => u.cell? ⟨bb, 3, none⟩ = some (.slice (some ⟨bM, 0, none⟩) mm cM) ∧ OnlyX (fun i => i = g ∨ i = bM) (World.drew v8) u) (by kernel_rfl) (⟨c3d, OnlyX.refl⟩) (fun hHeld => ?_)
          clear c3d
          refine wpAnyH_take (i := 0) (v := ?_) rfl (by kernel_rfl) (by kernel_rfl) (by kernel_rfl) (fun _ _ _ h => h) (Or.inl ⟨by rfl, ?_⟩) (by assumption) ?_
          rotate_left
          · intro wq hSw; clear hSw; go_simp; (try with_reducible rfl)
          (try simp only [List.getElem_toArray, List.getElem_cons_zero, List.getElem_cons_succ, Act.put, List.setIfInBounds_toArray, List.set_cons_zero, List.set_cons_succ])
          refine wpAnyH_take (i := 1) (v := ?_) rfl (by kernel_rfl) (by kernel_rfl) (by kernel_rfl) (fun _ _ _ h => h) (Or.inl ⟨by rfl, ?_⟩) (by assumption) ?_
          rotate_left
          · intro wq hSw; have y1 := hSw.1; clear hSw; go_simp; (try with_reducible rfl)
          (try simp only [List.getElem_toArray, List.getElem_cons_zero, List.getElem_cons_succ, Act.put, List.setIfInBounds_toArray, List.set_cons_zero, List.set_cons_succ])
          refine wpAnyH_take (i := 2) (v := ?_) rfl (by kernel_rfl) (by kernel_rfl) (by kernel_rfl) (fun _ _ _ h => h) (Or.inl ⟨by rfl, ?_⟩) (by assumption) ?_
          rotate_left
          · intro wq hSw; clear hSw; go_simp; (try with_reducible rfl)
          (try simp only [List.getElem_toArray, List.getElem_cons_zero, List.getElem_cons_succ, Act.put, List.setIfInBounds_toArray, List.set_cons_zero, List.set_cons_succ])
          refine wpAnyH_take (i := 3) (v := ?_) rfl (by kernel_rfl) (by kernel_rfl) (by kernel_rfl) (fun _ _ _ h => h) (Or.inl ⟨by rfl, ?_⟩) (by assumption) ?_
          rotate_left
          · intro wq hSw; clear hSw; go_simp; (try with_reducible rfl)
          (try simp only [List.getElem_toArray, List.getElem_cons_zero, List.getElem_cons_succ, Act.put, List.setIfInBounds_toArray, List.set_cons_zero, List.set_cons_succ])
          refine wpAnyH_ready (rs := [4]) (by kernel_rfl) (by simp) ?_
          refine AllReadyH.cons (i := 4) (by rfl) ?_ (AllReadyH.nil)
          intro K' hK
          simp only [List.getElem_toArray, List.getElem_cons_zero, List.getElem_cons_succ]
          refine if_yes (by kernel_rfl) ?_
          go_big_op
          (go_at_call 39; refine (HNX.out _ _ (mm : Int) hTc (by omega) (by omega)).mono ?_; rintro e v9 ⟨ri, rfl, ri0, ri1, t9, ht9, hTd, hgc⟩)
          refine hK.out _ _ ?_ (fun hHeld2 => ?_)
          · exact ⟨(HG1.out _ _ hgc).cell hHeld.1 (by omega), hHeld.2.trans ((HG1.out _ _ hgc).mono (fun i _ e => Or.inl e))⟩
          clear hK K' hHeld
          have hHeld := hHeld2
          clear hHeld2
          (try simp only [List.getElem_toArray, List.getElem_cons_zero, List.getElem_cons_succ, Act.put, List.setIfInBounds_toArray, List.set_cons_zero, List.set_cons_succ])
          have hMc := own_onlyX hMc (HG1.out _ _ hgc) (fun i hi e => by have := (hMc.lt i hi).1; omega)
          have hTc := hTd
          clear hTd hgc
          obtain ⟨ix, rfl⟩ : ∃ ix : Nat, ri = ix := ⟨ri.toNat, by omega⟩
          have hixm : ix < mm := by omega
          have i0 : (0 : Int) ≤ (ix : Int) := by omega
          have i1 : (ix : Int) < (mm : Int) := by omega
          clear ri0 ri1
          refine wpAnyH_take (i := 5) (v := ?_) rfl (by kernel_rfl) (by kernel_rfl) (by kernel_rfl) (fun _ _ _ h => h) (Or.inl ⟨by rfl, ?_⟩) (by assumption) ?_
          rotate_left
          · intro wq hSw; clear hSw; go_simp; (try with_reducible rfl)
          (try simp only [List.getElem_toArray, List.getElem_cons_zero, List.getElem_cons_succ, Act.put, List.setIfInBounds_toArray, List.set_cons_zero, List.set_cons_succ])
          refine wpAnyH_take (i := 6) (v := ?_) rfl (by kernel_rfl) (by kernel_rfl) (by kernel_rfl) (fun _ _ _ h => h) (Or.inl ⟨by rfl, ?_⟩) (by assumption) ?_
          rotate_left
          · intro wq hSw; clear hSw; go_simp; (try with_reducible rfl)
          (try simp only [List.getElem_toArray, List.getElem_cons_zero, List.getElem_cons_succ, Act.put, List.setIfInBounds_toArray, List.set_cons_zero, List.set_cons_succ])
          refine wpAnyH_done (by kernel_rfl) ?_ _
          refine NoPanic.normal ?_
          have hX9 : OnlyX (fun i => i = g ∨ i = bM) v8 v9 := (OnlyX.refl.drew).trans hHeld.2
          have hs9 : v8.heap.size ≤ v9.heap.size := hX9.size
          have hbM8 : bM < v8.heap.size := (hM.lt bM rfl).2
          have hb9 := below_onlyX hb1 hX9 (fun i hi e => by rcases e with e | e <;> omega)
          obtain ⟨y, hy⟩ : ∃ y, ccs[ix]? = some y := ⟨_, List.getElem?_eq_getElem (by have := HLM.out; omega)⟩
          obtain ⟨⟨l9, hl9⟩, hn9⟩ := HC.out y (List.mem_of_getElem? hy)
          obtain ⟨ya, A9, n9, c9⟩ := y
          dsimp only at hl9 hn9
          have HY := Lib.hid hy
          have HL9 := Lib.hid hl9
          have f9 : v9.cell? ⟨bM, ix * 2 + 1, none⟩ = some (.slice A9 n9 c9) := own_at (j := 1) hMc ccCells_len HY.out rfl
          have HX9 := Lib.hid hX9
          clear hy hl9 hHeld hX9
          go_upto_region 12 with fail
          have hm2 : (v9.alloc (.cells #[] 95)).ownsRow v9.heap.size 95 5 (.slice (some ⟨v9.heap.size, 0, none⟩) 0 0) 0 [] := World.ownsRow_made v9 #[] 0 (Nat.le_refl _) (by decide) rfl
          have hr2 := (HL9.out.below hb9 |>.more hb9.size).belowU (keep_alloc (Below.refl _ _) (.cells #[] 95))
          have hz2 : v9.heap.size ≤ (v9.alloc (.cells #[] 95)).heap.size := by simp
          have p2 : 0 + n9 ≤ maxLen := by unfold maxLen; omega
          have q2 : (0 + n9) * 40 ≤ 140737488355328 := by omega
          have f9a : (v9.alloc (.cells #[] 95)).cell? ⟨bM, ix * 2 + 1, none⟩ = some (.slice A9 n9 c9) := own_at (j := 1) (own_keep hMc (keep_alloc (Below.refl _ _) _)) ccCells_len HY.out rfl
          go_upto_region 13 with (at_builtin; refine wpList_appB rfl _ _ _ (by rfl) tyRInsN (by rfl) hm2 (by rfl) hr2 one_ins p2 q2 hz2 ?_; intro v' w2 hown2 hg2 hbk2; have hX2 : OnlyX (fun i => i = v9.heap.size) (v9.alloc (.cells #[] 95)) w2 := (OnlyX.grown hg2).mono (fun i _ hi => (Option.some.inj hi).symm); have hD2 := own_onlyX (own_keep hMc (keep_alloc (Below.refl _ _) (.cells #[] 95))) hX2 (fun i hi e => by have := (hMc.lt i hi).2; omega); have c2 : w2.cell? ⟨bM, ix * 2 + 1, none⟩ = some (.slice A9 n9 c9) := own_at (j := 1) hD2 ccCells_len HY.out rfl; have cf2 := own_free hD2; simp only [Nat.zero_add, List.nil_append] at hown2; obtain ⟨A2, cQ, rfl, -⟩ := Reads.own hown2)
          have hX : OnlyX (fun i => i = bM) v9 (w2.setCell ⟨bM, ix * 2 + 1, none⟩ (.slice A2 n9 cQ)) := ((OnlyX.refl (X := (fun i => i = bM))).alloc (.cells #[] 95) |>.more hX2 (fun i hi e => by omega)).set (p := ⟨bM, ix * 2 + 1, none⟩) (fun _ => rfl) _
          have NEW := (hD2.stored (ix * 2 + 1) (.slice A2 n9 cQ)).1
          have hQ := own_store hown2 hD2 (by decide) (ix * 2 + 1) (.slice A2 n9 cQ)
          have HXA := Lib.hid hX
          clear hD2 c2 cf2 f9a f9
          obtain ⟨v10, hv2⟩ : ∃ v10, w2.setCell ⟨bM, ix * 2 + 1, none⟩ (.slice A2 n9 cQ) = v10 := ⟨_, rfl⟩
          rw [hv2] at hX NEW hQ HXA ⊢
          obtain ⟨AQ, hA2⟩ : ∃ A3, A2 = A3 := ⟨_, rfl⟩
          rw [hA2] at NEW hQ ⊢
          have hTc := tape_onlyX hTc hX (fun i hi e => by omega)
          have hsz10 : v9.heap.size ≤ v10.heap.size := hX.size
          clear hv2 hA2 hown2 hg2 hbk2 hm2 hr2 hz2 p2 q2 hX hX2
          rw [flat_set ccCells_len HY.out (j := 1) (a' := ⟨ya, AQ, n9, cQ⟩) (by omega) rfl] at NEW
          have hym : (ccs.set ix ⟨ya, AQ, n9, cQ⟩)[ix]? = some ⟨ya, AQ, n9, cQ⟩ := by rw [List.getElem?_set_self (List.getElem?_eq_some_iff.1 HY.out).1]
          have fq : v10.cell? ⟨bM, ix * 2 + 1, none⟩ = some (.slice AQ n9 cQ) := own_at (j := 1) NEW ccCells_len hym rfl
          have hX10 : OnlyX (fun i => i = g ∨ i = bM) v8 v10 := HX9.out.more HXA.out (fun i hi e => Or.inr e)
          have HX10 := Lib.hid hX10
          have hl9' := HL9.out.length insCells_len (by omega)
          have HLN9 := Lib.hid hl9'
          clear hym hX10 hl9' NEW hMc
          by_cases hn0 : n9 = 0
          · have s1 : decide ((0 : Int) < (n9 : Int)) = false := decide_eq_false (by omega)
            have s1' : decide (0 < n9) = false := decide_eq_false (by omega)
            have hXf := HX10.out
            have hFf := own_onlyX hF hXf (fun i hi e => by have h1 := (hF.lt i hi).1; rcases e with e | e; (· omega); (· exact HFN.out i hi e))
            have hLf := own_onlyX hL hXf (fun i hi e => by have h1 := (hL.lt i hi).1; rcases e with e | e; (· omega); (· exact HLN.out i hi e))
            have hIf := own_onlyX hI hXf (fun i hi e => by have h1 := (hI.lt i hi).1; rcases e with e | e; (· omega); (· exact HINN.out i hi e))
            have BPf := BP.onlyX (X := (fun i => i = g ∨ i = bM)) (by omega) hXf
            have B2f := B2.onlyX (X := (fun i => i = g ∨ i = bM)) (by omega) hXf
            have R4f := R4.onlyX (X := (fun i => i = g ∨ i = bM)) (by omega) hXf
            have hb1f := below_onlyX hb1 hXf (fun i hi e => by rcases e with e | e <;> omega)
            have hfok := HFO.out
            clear hXf hn0
            obtain ⟨AL2, cL2, eL, hLR⟩ := Reads.own hLf
            injection eL with x1 x2 x3
            subst x1 x3
            obtain ⟨AI2, cI2, eI, hIR⟩ := Reads.own hIf
            injection eI with x1 x2 x3
            subst x1 x3
            have HJ := Lib.hid (warpJ_of HP.out HK.out hb1f h0b B2f R4f BPf hk hFf (f := ⟨p, locs, r, ins⟩) ⟨rfl, rfl, hLR, hIR⟩ (fun b off _ e => by have := (hLf.lt b (congrArg (fun A => (Value.slice A n cL).ownBlock) e)).1; omega) (fun b off _ e => by have := (hIf.lt b (congrArg (fun A => (Value.slice A m cI).ownBlock) e)).1; omega) hfok (HP.out.nats.below hb1f |>.more hb1f.size) (fun b off hn e => by obtain ⟨b', off', e', hb', -⟩ := HP.out.nats.at_ hn; rw [e] at e'; cases e'; exact Or.inl hb') (by omega))
            clear hLR hIR hFf hLf hIf B2f R4f BPf hb1f hF hL hI hM BP B2 R4 hT1 hb1
            go_wp2_with fail
            go_meet
            exact HJ.out
          · have s1 : decide ((0 : Int) < (n9 : Int)) = true := decide_eq_true (by omega)
            have s1' : decide (0 < n9) = true := decide_eq_true (by omega)
            obtain ⟨bQ, capy, cury, hv, hgy, -, -, -, -, -⟩ := own_block hQ (by omega) (by omega)
            injection hv with hv1 hv2 hv3
            subst hv1
            have hTe : TapeAt (World.drew v10) g t9 := hTc.below (Below.refl _ _).drew
            have hQc := own_keep hQ (Below.refl _ _).drew
            have fqd : (World.drew v10).cell? ⟨bM, ix * 2 + 1, none⟩ = some (.slice (some ⟨bQ, 0, none⟩) n9 cQ) := fq
            clear hv2 hv3
            go_upto_region 14 with fail
            clear fq
            refine wp_region_noPanic ?_
            refine wp_region_held_drew (S := fun u => u.cell? ⟨bM, ix * 2 + 1, none⟩ = some (.slice (some ⟨bQ, 0, none⟩) n9 cQ) ∧ OnlyX (fun i => i = g) (World.drew v10) u) (by kernel_rfl) (⟨fqd, OnlyX.refl⟩) (fun hHeld => ?_)
            clear fqd
            refine wpAnyH_take (i := 0) (v := ?_) rfl (by kernel_rfl) (by kernel_rfl) (by kernel_rfl) (fun _ _ _ h => h) (Or.inl ⟨by rfl, ?_⟩) (by assumption) ?_
            rotate_left
            · intro wq hSw; clear hSw; go_simp; (try with_reducible rfl)
            (try simp only [List.getElem_toArray, List.getElem_cons_zero, List.getElem_cons_succ, Act.put, List.setIfInBounds_toArray, List.set_cons_zero, List.set_cons_succ])
            refine wpAnyH_take (i := 1) (v := ?_) rfl (by kernel_rfl) (by kernel_rfl) (by kernel_rfl) (fun _ _ _ h => h) (Or.inl ⟨by rfl, ?_⟩) (by assumption) ?_
            rotate_left
            · intro wq hSw; clear hSw; go_simp; (try with_reducible rfl)
            (try simp only [List.getElem_toArray, List.getElem_cons_zero, List.getElem_cons_succ, Act.put, List.setIfInBounds_toArray, List.set_cons_zero, List.set_cons_succ])
            refine wpAnyH_take (i := 2) (v := ?_) rfl (by kernel_rfl) (by kernel_rfl) (by kernel_rfl) (fun _ _ _ h => h) (Or.inl ⟨by rfl, ?_⟩) (by assumption) ?_
            rotate_left
            · intro wq hSw; clear hSw; go_simp; (try with_reducible rfl)
            (try simp only [List.getElem_toArray, List.getElem_cons_zero, List.getElem_cons_succ, Act.put, List.setIfInBounds_toArray, List.set_cons_zero, List.set_cons_succ])
            refine wpAnyH_take (i := 3) (v := ?_) rfl (by kernel_rfl) (by kernel_rfl) (by kernel_rfl) (fun _ _ _ h => h) (Or.inl ⟨by rfl, ?_⟩) (by assumption) ?_
            rotate_left
            · intro wq hSw; have y1 := hSw.1; clear hSw; go_simp; (try with_reducible rfl)
            (try simp only [List.getElem_toArray, List.getElem_cons_zero, List.getElem_cons_succ, Act.put, List.setIfInBounds_toArray, List.set_cons_zero, List.set_cons_succ])
            refine wpAnyH_take (i := 4) (v := ?_) rfl (by kernel_rfl) (by kernel_rfl) (by kernel_rfl) (fun _ _ _ h => h) (Or.inl ⟨by rfl, ?_⟩) (by assumption) ?_
            rotate_left
            · intro wq hSw; clear hSw; go_simp; (try with_reducible rfl)
            (try simp only [List.getElem_toArray, List.getElem_cons_zero, List.getElem_cons_succ, Act.put, List.setIfInBounds_toArray, List.set_cons_zero, List.set_cons_succ])
            refine wpAnyH_take (i := 5) (v := ?_) rfl (by kernel_rfl) (by kernel_rfl) (by kernel_rfl) (fun _ _ _ h => h) (Or.inl ⟨by rfl, ?_⟩) (by assumption) ?_
            rotate_left
            · intro wq hSw; clear hSw; go_simp; (try with_reducible rfl)
            (try simp only [List.getElem_toArray, List.getElem_cons_zero, List.getElem_cons_succ, Act.put, List.setIfInBounds_toArray, List.set_cons_zero, List.set_cons_succ])
            refine wpAnyH_take (i := 6) (v := ?_) rfl (by kernel_rfl) (by kernel_rfl) (by kernel_rfl) (fun _ _ _ h => h) (Or.inl ⟨by rfl, ?_⟩) (by assumption) ?_
            rotate_left
            · intro wq hSw; clear hSw; go_simp; (try with_reducible rfl)
            (try simp only [List.getElem_toArray, List.getElem_cons_zero, List.getElem_cons_succ, Act.put, List.setIfInBounds_toArray, List.set_cons_zero, List.set_cons_succ])
            refine wpAnyH_take (i := 7) (v := ?_) rfl (by kernel_rfl) (by kernel_rfl) (by kernel_rfl) (fun _ _ _ h => h) (Or.inl ⟨by rfl, ?_⟩) (by assumption) ?_
            rotate_left
            · intro wq hSw; clear hSw; go_simp; (try with_reducible rfl)
            (try simp only [List.getElem_toArray, List.getElem_cons_zero, List.getElem_cons_succ, Act.put, List.setIfInBounds_toArray, List.set_cons_zero, List.set_cons_succ])
            refine wpAnyH_take (i := 8) (v := ?_) rfl (by kernel_rfl) (by kernel_rfl) (by kernel_rfl) (fun _ _ _ h => h) (Or.inl ⟨by rfl, ?_⟩) (by assumption) ?_
            rotate_left
            · intro wq hSw; have y1 := hSw.1; clear hSw; go_simp; (try with_reducible rfl)
            (try simp only [List.getElem_toArray, List.getElem_cons_zero, List.getElem_cons_succ, Act.put, List.setIfInBounds_toArray, List.set_cons_zero, List.set_cons_succ])
            refine wpAnyH_take (i := 9) (v := ?_) rfl (by kernel_rfl) (by kernel_rfl) (by kernel_rfl) (fun _ _ _ h => h) (Or.inl ⟨by rfl, ?_⟩) (by assumption) ?_
            rotate_left
            · intro wq hSw; clear hSw; go_simp; (try with_reducible rfl)
            (try simp only [List.getElem_toArray, List.getElem_cons_zero, List.getElem_cons_succ, Act.put, List.setIfInBounds_toArray, List.set_cons_zero, List.set_cons_succ])
            refine wpAnyH_ready (rs := [10]) (by kernel_rfl) (by simp) ?_
            refine AllReadyH.cons (i := 10) (by rfl) ?_ (AllReadyH.nil)
            intro K' hK
            simp only [List.getElem_toArray, List.getElem_cons_zero, List.getElem_cons_succ]
            refine if_yes (by kernel_rfl) ?_
            go_big_op
            (go_at_call 39; refine (HNX.out _ _ (n9 : Int) hTe (by omega) (by omega)).mono ?_; rintro e v11 ⟨ri2, rfl, ri20, ri21, t11, ht11, hTd, hgc⟩)
            refine hK.out _ _ ?_ (fun hHeld2 => ?_)
            · exact ⟨(HG1.out _ _ hgc).cell hHeld.1 (by omega), hHeld.2.trans (HG1.out _ _ hgc)⟩
            clear hK K' hHeld
            have hHeld := hHeld2
            clear hHeld2
            (try simp only [List.getElem_toArray, List.getElem_cons_zero, List.getElem_cons_succ, Act.put, List.setIfInBounds_toArray, List.set_cons_zero, List.set_cons_succ])
            have hQc := own_onlyX hQc (HG1.out _ _ hgc) (fun i hi e => by have := (hQc.lt i hi).1; omega)
            have hTe := hTd
            clear hTd hgc
            obtain ⟨iy, rfl⟩ : ∃ iy : Nat, ri2 = iy := ⟨ri2.toNat, by omega⟩
            have hiym : iy < n9 := by omega
            have j0 : (0 : Int) ≤ (iy : Int) := by omega
            have j1 : (iy : Int) < (n9 : Int) := by omega
            clear ri20 ri21
            refine wpAnyH_take (i := 11) (v := ?_) rfl (by kernel_rfl) (by kernel_rfl) (by kernel_rfl) (fun _ _ _ h => h) (Or.inl ⟨by rfl, ?_⟩) (by assumption) ?_
            rotate_left
            · intro wq hSw; clear hSw; go_simp; (try with_reducible rfl)
            (try simp only [List.getElem_toArray, List.getElem_cons_zero, List.getElem_cons_succ, Act.put, List.setIfInBounds_toArray, List.set_cons_zero, List.set_cons_succ])
            refine wpAnyH_take (i := 12) (v := ?_) rfl (by kernel_rfl) (by kernel_rfl) (by kernel_rfl) (fun _ _ _ h => h) (Or.inl ⟨by rfl, ?_⟩) (by assumption) ?_
            rotate_left
            · intro wq hSw; clear hSw; go_simp; (try with_reducible rfl)
            (try simp only [List.getElem_toArray, List.getElem_cons_zero, List.getElem_cons_succ, Act.put, List.setIfInBounds_toArray, List.set_cons_zero, List.set_cons_succ])
            refine wpAnyH_done (by kernel_rfl) ?_ _
            refine NoPanic.normal ?_
            have hX11 : OnlyX (fun i => i = g ∨ i = bM) v8 v11 := HX10.out.trans ((OnlyX.refl.drew).trans hHeld.2 |>.mono (Y := (fun i => i = g ∨ i = bM)) (fun i _ e => Or.inl e))
            have HX11 := Lib.hid hX11
            clear hHeld hX11
            go_wp2_with fail
            refine (HNX.out _ _ 4 hTe (by omega) (by omega)).mono ?_
            rintro e v12 ⟨rs, rfl, rs0, rs1, t12, ht12, hTg, hgd⟩
            have hQd := own_onlyX hQc (HG1.out _ _ hgd) (fun i hi e => by have := (hQc.lt i hi).1; omega)
            have HX12 := Lib.hid (HX11.out.trans ((HG1.out _ _ hgd).mono (Y := (fun i => i = g ∨ i = bM)) (fun i _ e => Or.inl e)))
            have h4 : rs = 0 ∨ rs = 1 ∨ rs = 2 ∨ rs = 3 := by omega
            clear rs0 rs1 hgd hTe
            rcases h4 with rfl | rfl | rfl | rfl
            · go_wp2_with fail
              refine (HNX.out _ _ 20 hTg (by omega) (by omega)).mono ?_
              rintro e v13 ⟨rv, rfl, rv0, rv1, t13, ht13, hTh, hge⟩
              have hQe := own_onlyX hQd (HG1.out _ _ hge) (fun i hi e => by have := (hQd.lt i hi).1; omega)
              obtain ⟨y, hiy⟩ : ∃ y, l9[iy]? = some y := ⟨_, List.getElem?_eq_getElem (by have := HLN9.out; omega)⟩
              have cst : v13.cell? ⟨bQ, iy * 5, none⟩ = some (.int .i64 y.op) := own_at (k := iy) (j := 0) hQe insCells_len hiy rfl
              have cfr := own_free hQe
              have hXf : OnlyX (fun i => i = g ∨ i = bM) v8 (v13.setCell ⟨bQ, iy * 5, none⟩ (.int .i64 rv)) := ((HX12.out.trans ((HG1.out _ _ hge).mono (Y := (fun i => i = g ∨ i = bM)) (fun i _ e => Or.inl e))).set (p := ⟨bQ, iy * 5, none⟩) (fun h => by have h' : bQ < v8.heap.size := h; omega) _)
              have hFf := own_onlyX hF hXf (fun i hi e => by have h1 := (hF.lt i hi).1; rcases e with e | e; (· omega); (· exact HFN.out i hi e))
              have hLf := own_onlyX hL hXf (fun i hi e => by have h1 := (hL.lt i hi).1; rcases e with e | e; (· omega); (· exact HLN.out i hi e))
              have hIf := own_onlyX hI hXf (fun i hi e => by have h1 := (hI.lt i hi).1; rcases e with e | e; (· omega); (· exact HINN.out i hi e))
              have BPf := BP.onlyX (X := (fun i => i = g ∨ i = bM)) (by omega) hXf
              have B2f := B2.onlyX (X := (fun i => i = g ∨ i = bM)) (by omega) hXf
              have R4f := R4.onlyX (X := (fun i => i = g ∨ i = bM)) (by omega) hXf
              have hb1f := below_onlyX hb1 hXf (fun i hi e => by rcases e with e | e <;> omega)
              have hfok := HFO.out
              clear hXf hiy hge hTh
              obtain ⟨AL2, cL2, eL, hLR⟩ := Reads.own hLf
              injection eL with x1 x2 x3
              subst x1 x3
              obtain ⟨AI2, cI2, eI, hIR⟩ := Reads.own hIf
              injection eI with x1 x2 x3
              subst x1 x3
              have HJ := Lib.hid (warpJ_of HP.out HK.out hb1f h0b B2f R4f BPf hk hFf (f := ⟨p, locs, r, ins⟩) ⟨rfl, rfl, hLR, hIR⟩ (fun b off _ e => by have := (hLf.lt b (congrArg (fun A => (Value.slice A n cL).ownBlock) e)).1; omega) (fun b off _ e => by have := (hIf.lt b (congrArg (fun A => (Value.slice A m cI).ownBlock) e)).1; omega) hfok (HP.out.nats.below hb1f |>.more hb1f.size) (fun b off hn e => by obtain ⟨b', off', e', hb', -⟩ := HP.out.nats.at_ hn; rw [e] at e'; cases e'; exact Or.inl hb') (by omega))
              clear hLR hIR hFf hLf hIf B2f R4f BPf hb1f hF hL hI hM BP B2 R4 hT1 hb1
              go_wp2_with fail
              go_meet
              exact HJ.out
            · go_wp2_with fail
              refine (HNX.out _ _ 30 hTg (by omega) (by omega)).mono ?_
              rintro e v13 ⟨rv, rfl, rv0, rv1, t13, ht13, hTh, hge⟩
              have hQe := own_onlyX hQd (HG1.out _ _ hge) (fun i hi e => by have := (hQd.lt i hi).1; omega)
              obtain ⟨y, hiy⟩ : ∃ y, l9[iy]? = some y := ⟨_, List.getElem?_eq_getElem (by have := HLN9.out; omega)⟩
              have cst : v13.cell? ⟨bQ, iy * 5 + 2, none⟩ = some (.int .i64 y.b) := own_at (k := iy) (j := 2) hQe insCells_len hiy rfl
              have cfr := own_free hQe
              have hXf : OnlyX (fun i => i = g ∨ i = bM) v8 (v13.setCell ⟨bQ, iy * 5 + 2, none⟩ (.int .i64 (rv - 1))) := ((HX12.out.trans ((HG1.out _ _ hge).mono (Y := (fun i => i = g ∨ i = bM)) (fun i _ e => Or.inl e))).set (p := ⟨bQ, iy * 5 + 2, none⟩) (fun h => by have h' : bQ < v8.heap.size := h; omega) _)
              have hFf := own_onlyX hF hXf (fun i hi e => by have h1 := (hF.lt i hi).1; rcases e with e | e; (· omega); (· exact HFN.out i hi e))
              have hLf := own_onlyX hL hXf (fun i hi e => by have h1 := (hL.lt i hi).1; rcases e with e | e; (· omega); (· exact HLN.out i hi e))
              have hIf := own_onlyX hI hXf (fun i hi e => by have h1 := (hI.lt i hi).1; rcases e with e | e; (· omega); (· exact HINN.out i hi e))
              have BPf := BP.onlyX (X := (fun i => i = g ∨ i = bM)) (by omega) hXf
              have B2f := B2.onlyX (X := (fun i => i = g ∨ i = bM)) (by omega) hXf
              have R4f := R4.onlyX (X := (fun i => i = g ∨ i = bM)) (by omega) hXf
              have hb1f := below_onlyX hb1 hXf (fun i hi e => by rcases e with e | e <;> omega)
              have hfok := HFO.out
              have wv : IntKind.i64.wrap (rv - 1) = rv - 1 := IntWalk.i64_in _ (by omega)
              clear hXf hiy hge hTh
              obtain ⟨AL2, cL2, eL, hLR⟩ := Reads.own hLf
              injection eL with x1 x2 x3
              subst x1 x3
              obtain ⟨AI2, cI2, eI, hIR⟩ := Reads.own hIf
              injection eI with x1 x2 x3
              subst x1 x3
              have HJ := Lib.hid (warpJ_of HP.out HK.out hb1f h0b B2f R4f BPf hk hFf (f := ⟨p, locs, r, ins⟩) ⟨rfl, rfl, hLR, hIR⟩ (fun b off _ e => by have := (hLf.lt b (congrArg (fun A => (Value.slice A n cL).ownBlock) e)).1; omega) (fun b off _ e => by have := (hIf.lt b (congrArg (fun A => (Value.slice A m cI).ownBlock) e)).1; omega) hfok (HP.out.nats.below hb1f |>.more hb1f.size) (fun b off hn e => by obtain ⟨b', off', e', hb', -⟩ := HP.out.nats.at_ hn; rw [e] at e'; cases e'; exact Or.inl hb') (by omega))
              clear hLR hIR hFf hLf hIf B2f R4f BPf hb1f hF hL hI hM BP B2 R4 hT1 hb1
              go_wp2_with fail
              go_meet
              exact HJ.out
            · go_wp2_with fail
              refine (HNX.out _ _ 10 hTg (by omega) (by omega)).mono ?_
              rintro e v13 ⟨rv, rfl, rv0, rv1, t13, ht13, hTh, hge⟩
              have hQe := own_onlyX hQd (HG1.out _ _ hge) (fun i hi e => by have := (hQd.lt i hi).1; omega)
              obtain ⟨y, hiy⟩ : ∃ y, l9[iy]? = some y := ⟨_, List.getElem?_eq_getElem (by have := HLN9.out; omega)⟩
              have cst : v13.cell? ⟨bQ, iy * 5 + 3, none⟩ = some (.int .i64 y.c) := own_at (k := iy) (j := 3) hQe insCells_len hiy rfl
              have cfr := own_free hQe
              have hXf : OnlyX (fun i => i = g ∨ i = bM) v8 (v13.setCell ⟨bQ, iy * 5 + 3, none⟩ (.int .i64 rv)) := ((HX12.out.trans ((HG1.out _ _ hge).mono (Y := (fun i => i = g ∨ i = bM)) (fun i _ e => Or.inl e))).set (p := ⟨bQ, iy * 5 + 3, none⟩) (fun h => by have h' : bQ < v8.heap.size := h; omega) _)
              have hFf := own_onlyX hF hXf (fun i hi e => by have h1 := (hF.lt i hi).1; rcases e with e | e; (· omega); (· exact HFN.out i hi e))
              have hLf := own_onlyX hL hXf (fun i hi e => by have h1 := (hL.lt i hi).1; rcases e with e | e; (· omega); (· exact HLN.out i hi e))
              have hIf := own_onlyX hI hXf (fun i hi e => by have h1 := (hI.lt i hi).1; rcases e with e | e; (· omega); (· exact HINN.out i hi e))
              have BPf := BP.onlyX (X := (fun i => i = g ∨ i = bM)) (by omega) hXf
              have B2f := B2.onlyX (X := (fun i => i = g ∨ i = bM)) (by omega) hXf
              have R4f := R4.onlyX (X := (fun i => i = g ∨ i = bM)) (by omega) hXf
              have hb1f := below_onlyX hb1 hXf (fun i hi e => by rcases e with e | e <;> omega)
              have hfok := HFO.out
              clear hXf hiy hge hTh
              obtain ⟨AL2, cL2, eL, hLR⟩ := Reads.own hLf
              injection eL with x1 x2 x3
              subst x1 x3
              obtain ⟨AI2, cI2, eI, hIR⟩ := Reads.own hIf
              injection eI with x1 x2 x3
              subst x1 x3
              have HJ := Lib.hid (warpJ_of HP.out HK.out hb1f h0b B2f R4f BPf hk hFf (f := ⟨p, locs, r, ins⟩) ⟨rfl, rfl, hLR, hIR⟩ (fun b off _ e => by have := (hLf.lt b (congrArg (fun A => (Value.slice A n cL).ownBlock) e)).1; omega) (fun b off _ e => by have := (hIf.lt b (congrArg (fun A => (Value.slice A m cI).ownBlock) e)).1; omega) hfok (HP.out.nats.below hb1f |>.more hb1f.size) (fun b off hn e => by obtain ⟨b', off', e', hb', -⟩ := HP.out.nats.at_ hn; rw [e] at e'; cases e'; exact Or.inl hb') (by omega))
              clear hLR hIR hFf hLf hIf B2f R4f BPf hb1f hF hL hI hM BP B2 R4 hT1 hb1
              go_wp2_with fail
              go_meet
              exact HJ.out
            · go_wp2_with fail
              refine (HNX.out _ _ 40 hTg (by omega) (by omega)).mono ?_
              rintro e v13 ⟨rv, rfl, rv0, rv1, t13, ht13, hTh, hge⟩
              have hQe := own_onlyX hQd (HG1.out _ _ hge) (fun i hi e => by have := (hQd.lt i hi).1; omega)
              obtain ⟨y, hiy⟩ : ∃ y, l9[iy]? = some y := ⟨_, List.getElem?_eq_getElem (by have := HLN9.out; omega)⟩
              have cst : v13.cell? ⟨bQ, iy * 5 + 4, none⟩ = some (.int .u64 (U y.k)) := own_at (k := iy) (j := 4) hQe insCells_len hiy rfl
              have cfr := own_free hQe
              have hXf : OnlyX (fun i => i = g ∨ i = bM) v8 (v13.setCell ⟨bQ, iy * 5 + 4, none⟩ (.int .u64 rv)) := ((HX12.out.trans ((HG1.out _ _ hge).mono (Y := (fun i => i = g ∨ i = bM)) (fun i _ e => Or.inl e))).set (p := ⟨bQ, iy * 5 + 4, none⟩) (fun h => by have h' : bQ < v8.heap.size := h; omega) _)
              have hFf := own_onlyX hF hXf (fun i hi e => by have h1 := (hF.lt i hi).1; rcases e with e | e; (· omega); (· exact HFN.out i hi e))
              have hLf := own_onlyX hL hXf (fun i hi e => by have h1 := (hL.lt i hi).1; rcases e with e | e; (· omega); (· exact HLN.out i hi e))
              have hIf := own_onlyX hI hXf (fun i hi e => by have h1 := (hI.lt i hi).1; rcases e with e | e; (· omega); (· exact HINN.out i hi e))
              have BPf := BP.onlyX (X := (fun i => i = g ∨ i = bM)) (by omega) hXf
              have B2f := B2.onlyX (X := (fun i => i = g ∨ i = bM)) (by omega) hXf
              have R4f := R4.onlyX (X := (fun i => i = g ∨ i = bM)) (by omega) hXf
              have hb1f := below_onlyX hb1 hXf (fun i hi e => by rcases e with e | e <;> omega)
              have hfok := HFO.out
              have wv : IntKind.u64.wrap rv = rv := IntWalk.u64_in _ ⟨by omega, by omega⟩
              clear hXf hiy hge hTh
              obtain ⟨AL2, cL2, eL, hLR⟩ := Reads.own hLf
              injection eL with x1 x2 x3
              subst x1 x3
              obtain ⟨AI2, cI2, eI, hIR⟩ := Reads.own hIf
              injection eI with x1 x2 x3
              subst x1 x3
              have HJ := Lib.hid (warpJ_of HP.out HK.out hb1f h0b B2f R4f BPf hk hFf (f := ⟨p, locs, r, ins⟩) ⟨rfl, rfl, hLR, hIR⟩ (fun b off _ e => by have := (hLf.lt b (congrArg (fun A => (Value.slice A n cL).ownBlock) e)).1; omega) (fun b off _ e => by have := (hIf.lt b (congrArg (fun A => (Value.slice A m cI).ownBlock) e)).1; omega) hfok (HP.out.nats.below hb1f |>.more hb1f.size) (fun b off hn e => by obtain ⟨b', off', e', hb', -⟩ := HP.out.nats.at_ hn; rw [e] at e'; cases e'; exact Or.inl hb') (by omega))
              clear hLR hIR hFf hLf hIf B2f R4f BPf hb1f hF hL hI hM BP B2 R4 hT1 hb1
              go_wp2_with fail
              go_meet
              exact HJ.out
end Go.Proofs.YtnnchinpmnpfiaaDoor

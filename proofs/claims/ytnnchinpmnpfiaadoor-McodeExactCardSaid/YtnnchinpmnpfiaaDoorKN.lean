/- How made programs are made: Image. PRINTED BY A PROGRAM (mk_made8.py). -/
import Derived.Test.YtnnchinpmnpfiaaDoorKM
import Derived.Test.YtnnchinpmnpfiaaDoorKH
namespace Go.Proofs.YtnnchinpmnpfiaaDoor
open Go.ChangeShapes Go.WideShapes Go.RowKit Words

/-- a native program in memory: its arguments and where its instructions lie -/
structure CC where
  a : Int
  A : Option Addr
  n : Nat
  c : Nat
def ccCells (x : CC) : List Value := [.int .i64 x.a, .slice x.A x.n x.c]
theorem ccCells_len (x : CC) : (ccCells x).length = 2 := rfl
theorem tyRCodes : SlTy Tryd.prog 65 90 2 32 := SlTy.mk' (z := .agg #[.int .i64 0, .slice none 0 0]) Tryd.underlying65 (by kernel_rfl) rfl (by omega)
/-- native programs of which the instructions lie from block B on and not in 'row' -/
def CodeRow (w : World) (B : Nat) (row : Option Nat) (xs : List CC) : Prop := ∀ x ∈ xs, (∃ l : List NI, Reads w w.heap.size 5 x.A x.n x.c (l.flatMap insCells)) ∧ x.n ≤ 57 ∧ ∀ b off, 0 < x.n → x.A = some ⟨b, off, none⟩ → B ≤ b ∧ some b ≠ row
section
variable {w w' : World} {B : Nat} {row row' : Option Nat} {x : CC} {xs : List CC} {X : Nat → Prop}
theorem CodeRow.onlyX (h : CodeRow w B row xs) (ho : OnlyX X w w') (hx : ∀ i, B ≤ i → i < w.heap.size → ¬ X i) : CodeRow w' B row xs := fun x hm => by
  obtain ⟨⟨l, hl⟩, hn, hf⟩ := h x hm
  exact ⟨⟨l, hl.onlyX2 (fun b off hn e hlt => hx b (hf b off hn e).1 hlt) ho⟩, hn, hf⟩
theorem CodeRow.grown (h : CodeRow w B row xs) (hg : w.grownBy w' row) (hr : row' = row ∨ row' = some w.heap.size) : CodeRow w' B row' xs := fun x hm => by
  obtain ⟨⟨l, hl⟩, hn, hf⟩ := h x hm
  refine ⟨⟨l, hl.row hg fun b off hn e => (hf b off hn e).2⟩, hn, fun b off hn e => ?_⟩
  obtain ⟨h1, h2⟩ := hf b off hn e
  obtain ⟨b', off', e', hlt, -⟩ := hl.at_ hn
  rw [e] at e'
  cases e'
  refine ⟨h1, ?_⟩
  rcases hr with rfl | rfl
  · exact h2
  · intro e2; cases e2; omega
theorem CodeRow.snoc (h : CodeRow w B row xs) (hx : (∃ l : List NI, Reads w w.heap.size 5 x.A x.n x.c (l.flatMap insCells)) ∧ x.n ≤ 57 ∧ ∀ b off, 0 < x.n → x.A = some ⟨b, off, none⟩ → B ≤ b ∧ some b ≠ row) : CodeRow w B row (xs ++ [x]) := fun y hm => by
  rcases List.mem_append.1 hm with hm | hm
  · exact h y hm
  · simp only [List.mem_singleton] at hm; subst hm; exact hx
theorem CodeRow.nil : CodeRow w B row [] := fun x hm => by simp at hm
end
theorem tape_belowB {w w' : World} {g a B : Nat} (h : TapeAt w g a) (hb : Below B w w') (hg : g < B) : TapeAt w' g a := by
  obtain ⟨A, n, c, l, hB, hr⟩ := h
  exact ⟨A, n, c, l, hB.belowB hb hg, hr.below (hb.mono (by omega))⟩
/-- native programs lie in memory -/
def CodesAt (w : World) (xs : List CC) : Prop := ∀ x ∈ xs, (∃ l : List NI, Reads w w.heap.size 5 x.A x.n x.c (l.flatMap insCells)) ∧ x.n ≤ 57
theorem CodesAt.below {w w' : World} {xs : List CC} (h : CodesAt w xs) (hb : Below w.heap.size w w') : CodesAt w' xs := fun x hm => by
  obtain ⟨⟨l, hl⟩, hn⟩ := h x hm
  exact ⟨⟨l, hl.belowU hb⟩, hn⟩
/-- the contract of Managed -/
def ManagedC : Prop := ∀ (g t : Nat) (N : Option Addr) (nn cn : Nat) (nats : List Int) (w : World), TapeAt w g t → t ≤ 600000 → Reads w w.heap.size 1 N nn cn (nats.flatMap intCells) → FarA g nn N → nn ≤ 2 → (∀ q ∈ nats, 0 ≤ q ∧ q ≤ 2) → Calls Tryd.prog 40 #[.pointer (some ⟨g, 0, none⟩), .slice N nn cn] w (RetManaged w g t N nn cn nats)
/-- a native program comes back -/
def RetNat (w : World) (g t : Nat) (args : Int) (e : Ending) (w' : World) : Prop :=
  ∃ (l : List NI) (A : Option Addr) (c t' : Nat), e = .returned (codeV args A l.length c) ∧ Reads w' w'.heap.size 5 A l.length c (l.flatMap insCells) ∧ (∀ b off, 0 < l.length → A = some ⟨b, off, none⟩ → w.heap.size ≤ b) ∧ l.length ≤ 57 ∧ t' ≤ t + 100 ∧ TapeAt w' g t' ∧ w.grownBy w' (some g)
/-- the contract of Native -/
def NativeC : Prop := ∀ (g t nf : Nat) (args : Int) (F : Option Addr) (cf : Nat) (fl : List Int) (w : World), TapeAt w g t → t ≤ 800000 → Reads w w.heap.size 1 F nf cf (fl.flatMap intCells) → (∀ b off, F = some ⟨b, off, none⟩ → b ≠ g) → 0 < nf → nf ≤ 16 → (∀ p ∈ fl, 0 ≤ p ∧ p ≤ 3) → Calls Tryd.prog 41 #[.pointer (some ⟨g, 0, none⟩), .int .i64 args, .slice F nf cf] w (RetNat w g t args)
abbrev imgV (S : Option Addr) (ns cs : Nat) (F : Option Addr) (nf cf : Nat) (N : Option Addr) (nn cn : Nat) (M : Option Addr) (m cm : Nat) : Value := .agg #[.slice S ns cs, .slice F nf cf, .slice N nn cn, .slice M m cm]
/-- an image comes back -/
def RetImage (w : World) (g : Nat) (e : Ending) (w' : World) : Prop :=
  ∃ (S : Option Addr) (ns cs : Nat) (F : Option Addr) (nf cf : Nat) (N : Option Addr) (nn cn : Nat) (M : Option Addr) (m cm : Nat) (fcs : List FC) (P : Prg) (ccs : List CC), e = .returned (imgV S ns cs F nf cf N nn cn M m cm) ∧ PrAt w' S ns cs F nf cf N nn cn P fcs ∧ MadeOk P ∧
    Reads w' w'.heap.size 2 M m cm (ccs.flatMap ccCells) ∧ CodesAt w' ccs ∧ m ≤ 2 ∧ OnlyX (fun i => i = g) w w'
set_option linter.unusedSimpArgs false in
set_option linter.unusedVariables false in
set_option maxRecDepth 100000 in
set_option maxHeartbeats 20000000 in
theorem image_any (HMA : ManagedC) (HNA : NativeC) (g t : Nat) (w : World) (hT : TapeAt w g t) (ht : t ≤ 500000) : Calls Tryd.prog 20 #[.pointer (some ⟨g, 0, none⟩)] w (RetImage w g) := by
  have hgl := hT.lt
  have HMAC := Lib.hid HMA
  have HNAC := Lib.hid HNA
  have HNX := Lib.hid (show ∀ wq tq (k : Int), TapeAt wq g tq → tq ≤ 900000 → k ≤ 1000 → Calls Tryd.prog 39 #[.pointer (some ⟨g, 0, none⟩), .int .i64 k] wq (RetNext wq g tq k) from fun wq tq k hq h9 hk => next_any g tq k wq hq (by omega) (by omega))
  have HG1 := Lib.hid (show ∀ (a b : World), a.grownBy b (some g) → OnlyX (fun i => i = g) a b from fun a b h => (OnlyX.grown h).mono (fun i _ e => by injection e with e; exact e.symm))
  clear HMA HNA
  have hB0 : Below w.heap.size w (w.alloc (.cells #[.slice none 0 0, .slice none 0 0, .slice none 0 0, .slice none 0 0] 67)) := keep_alloc (Below.refl _ _) _
  have R0 := Blk.new w #[.slice none 0 0, .slice none 0 0, .slice none 0 0, .slice none 0 0] 67
  have hT0 := hT.below hB0
  have hX0 : OnlyX (fun i => i = g) w (w.alloc (.cells #[.slice none 0 0, .slice none 0 0, .slice none 0 0, .slice none 0 0] 67)) := OnlyX.belowU hB0
  clear hB0 hT
  go_enter Tryd.func20, Tryd.ntmps20
  go_wp2_with fail
  obtain ⟨w0, hw0⟩ : ∃ w0, w.alloc (.cells #[.slice none 0 0, .slice none 0 0, .slice none 0 0, .slice none 0 0] 67) = w0 := ⟨_, rfl⟩
  rw [hw0] at R0 hT0 hX0 ⊢
  have hs0 : w0.heap.size = w.heap.size + 1 := by rw [← hw0]; simp
  obtain ⟨r0, hr0⟩ : ∃ r0, w.heap.size = r0 := ⟨_, rfl⟩
  rw [hr0] at R0 hs0 ⊢
  have hgr : g < r0 := by omega
  have HR0 := Lib.hid hr0
  clear hw0 hr0
  refine (HNX.out _ _ 3 hT0 (by omega) (by omega)).mono ?_
  rintro e w1 ⟨r1, rfl, h10, h11, t1, ht1, hT1, hg1⟩
  have h12 : r1 < 3 := by omega
  have R1 := R0.onlyN hg1 (by omega)
  have hX1 := hX0.trans (HG1.out _ _ hg1)
  have hs1 : r0 + 1 ≤ w1.heap.size := by have := hg1.size; omega
  clear h11 hg1 hT0 R0 hX0
  go_wp2_with fail
  go_loopw [3, 4] (fun o x wq => ∃ (j : Nat) (z : Int) (A : Option Addr) (e : Nat) (xs : List Int) (tq : Nat), o = .slice A j e ∧ x = .int .i64 z ∧ 0 ≤ z ∧ z + j = r1 ∧ xs.length = j ∧ (∀ q ∈ xs, 0 ≤ q ∧ q ≤ 2) ∧ wq.ownsRow (r0 + 1) 3 1 (.slice A j e) j (xs.flatMap intCells) ∧ TapeAt wq g tq ∧ tq ≤ t1 + j ∧ OnlyX (fun i => i = g ∨ r0 + 1 ≤ i) w1 wq) (fun _ x _ => (intOf x).toNat)
  case atStart => exact ⟨0, r1, none, 0, [], t1, rfl, rfl, h10, by omega, rfl, fun q hq => by simp at hq, World.ownsRow_nil _ _ _ _, hT1, by omega, OnlyX.refl⟩
  case round =>
    obtain ⟨j, z, A, e, xs, t2, rfl, rfl, hz0, hzj, hxl, hxs, hown, hT2, ht2, hX2⟩ := hrel
    have HXL := Lib.hid hxl
    have HXS := Lib.hid hxs
    have hj2 : j ≤ 2 := by omega
    have hz3 : z ≤ 2 := by omega
    have HZJ := Lib.hid hzj
    clear hxl hxs hT1 hzj
    by_cases hz : 0 < z
    · have hd : decide ((0 : Int) < z) = true := decide_eq_true hz
      have wz : IntKind.i64.wrap (z - 1) = z - 1 := IntWalk.i64_in _ (by omega)
      have q1' : j + 1 ≤ maxLen := by unfold maxLen; omega
      have q2' : (j + 1) * 8 ≤ 140737488355328 := by omega
      go_wp2_with fail
      refine (HNX.out _ _ 3 hT2 (by omega) (by omega)).mono ?_
      rintro e w3 ⟨r3, rfl, h30, h31, t3, ht3, hT3, hg3⟩
      have h32 : r3 < 3 := by omega
      have hown3 := own_onlyX hown (HG1.out _ _ hg3) (fun i hi e => by have := (hown.lt i hi).1; omega)
      have hX3 : OnlyX (fun i => i = g ∨ r0 + 1 ≤ i) w1 w3 := hX2.trans ((HG1.out _ _ hg3).mono fun i _ e => Or.inl e)
      have hba : Below w3.heap.size w3 (w3.alloc (.cells #[.int .i64 r3] 3)) := keep_alloc (Below.refl _ _) _
      have hfr := Reads.freshAs w3 #[.int .i64 r3] 3 1 1 [.int .i64 r3] rfl rfl (by decide)
      have hown4 := own_keep hown3 hba
      have hT4 := hT3.below hba
      have hX4 := hX3.keep hba
      have hs4 : r0 + 1 ≤ (w3.alloc (.cells #[.int .i64 r3] 3)).heap.size := by have := hX4.size; omega
      clear h31 hg3 hown hX2 hown3 hX3 hT3 hba hT2
      go_wp2_with (at_builtin; refine wpList_appB rfl _ _ _ (by rfl) tyInts (by rfl) hown4 (by rfl) hfr (by simp [Value.oneCell']) q1' q2' hs4 ?_; intro v' w5 hown5 hg5 hbk5; obtain ⟨A5, c5, rfl, -⟩ := Reads.own hown5)
      go_roundw
      case rel =>
        refine ⟨j + 1, z - 1, A5, c5, xs ++ [r3], t3, rfl, rfl, by omega, by have := HZJ.out; omega, by simp [HXL.out], ?_, ?_, tape_row hT4 hg5 (fun e => by have := (hown4.lt _ e).1; omega), by omega, hX4.row hg5 (fun i hi _ => Or.inr (hown4.lt i hi).1)⟩
        · intro q hq
          rcases List.mem_append.1 hq with hq | hq
          · exact HXS.out q hq
          · simp only [List.mem_singleton] at hq; omega
        · rw [List.flatMap_append]; exact hown5
      case measure => simp [intOf]; omega
    · have hz00 : z = 0 := by omega
      subst hz00
      have hd : decide ((0 : Int) < 0) = false := by simp
      clear hz hz0 hz3
      obtain ⟨w2, rfl⟩ : ∃ w2, w2 = wr := ⟨_, rfl⟩
      have R2 := R1.onlyX (by omega) hX2
      have hXw2 := hX1.more hX2 (fun i hi h => by have := HR0.out; rcases h with h | h; (· exact h); (· omega))
      have hs2 : r0 + 1 ≤ w2.heap.size := by have := hX2.size; omega
      obtain ⟨AN, cN, eN, hN2⟩ := Reads.own hown
      injection eN with x1 x2 x3
      subst x1 x3
      have hNb : ∀ b off, 0 < j → A = some ⟨b, off, none⟩ → r0 < b ∧ b < w2.heap.size := fun b off hn e => by have := hown.lt b (by rw [e]; rfl); omega
      have HNB := Lib.hid hNb
      have HCALL := Lib.hid (HMAC.out g t2 A j e xs w2 hT2 (by omega) hN2 (fun b off hn e => by have := hNb b off hn e; omega) hj2 HXS.out)
      have HN2 := Lib.hid hN2
      clear hown hX2 R1 hX1 hNb hN2 hT2
      go_wp2_with fail
      refine HCALL.out.mono ?_
      rintro e w3 ⟨S, ns, cs, F, nf, cf, fcs, P, t3, rfl, hcl, hnat, hmk, ht3, hT3, hX3⟩
      have hPr3 := hcl (fun _ => False) w3 (fun _ h => h.elim) (fun _ _ _ _ h => h) OnlyX.refl
      have hlenF := hPr3.fns.length fcCells_len (by omega)
      have hnf1 : 1 ≤ nf := by have := hmk.nf1; have := hPr3.each.1; omega
      have hnf3 : nf ≤ 3 := by have := hmk.nf3; have := hPr3.each.1; omega
      have hlfs : P.fns.length = nf := by have := hPr3.each.1; omega
      have HCL := Lib.hid hcl
      have HMK := Lib.hid hmk
      have HPR := Lib.hid hPr3
      have HLF := Lib.hid hlenF
      have HLFS := Lib.hid hlfs
      have R3 := R2.onlyX (by omega) hX3
      have hs3 : w2.heap.size ≤ w3.heap.size := hX3.size
      have HN3 := Lib.hid (HN2.out.onlyX (X := fun i => i = g) (fun b off hn e hx => by have := HNB.out b off hn e; omega) hX3)
      have hXw3 := hXw2.trans hX3
      clear hcl hmk hnat hPr3 hlenF hlfs HCALL HN2 hXw2 R2
      go_wp2_with fail
      have hba : Below w3.heap.size w3 (w3.alloc (.cells #[.slice S ns cs, .slice F nf cf, .slice A j e, .slice none 0 0] 67)) := keep_alloc (Below.refl _ _) _
      have M4 := Blk.new w3 #[.slice S ns cs, .slice F nf cf, .slice A j e, .slice none 0 0] 67
      have R4 := R3.below hba
      have hT4 := hT3.below hba
      have HB34 := Lib.hid hba
      obtain ⟨w4, hw4⟩ : ∃ w4, w3.alloc (.cells #[.slice S ns cs, .slice F nf cf, .slice A j e, .slice none 0 0] 67) = w4 := ⟨_, rfl⟩
      have hs4 : w4.heap.size = w3.heap.size + 1 := by rw [← hw4]; simp
      rw [hw4] at M4 R4 hT4 HB34 ⊢
      obtain ⟨bm, hbm⟩ : ∃ bm, w3.heap.size = bm := ⟨_, rfl⟩
      rw [hbm] at M4 hs4 ⊢
      have HBM := Lib.hid hbm
      have hrb : r0 + 1 ≤ bm := by omega
      clear hw4 hba hT3 R3 hbm
      go_loopw [6, 7] (fun o x wq => ∃ (i : Nat) (B : Option Addr) (e : Nat) (ps : List Int), o = .slice B i e ∧ x = .int .i64 i ∧ i ≤ nf ∧ ps.length = i ∧ (∀ q ∈ ps, 0 ≤ q ∧ q ≤ 3) ∧ wq.ownsRow (bm + 1) 3 1 (.slice B i e) i (ps.flatMap intCells) ∧ Below (bm + 1) w4 wq) (fun _ x _ => nf - (intOf x).toNat)
      case atStart => exact ⟨0, none, 0, [], rfl, rfl, Nat.zero_le _, rfl, fun q hq => by simp at hq, World.ownsRow_nil _ _ _ _, Below.refl _ _⟩
      case round =>
        obtain ⟨i, B, e2, ps, rfl, rfl, hin, hpl, hps, hownP, hb⟩ := hrel
        obtain ⟨w5, rfl⟩ : ∃ w5, w5 = wr := ⟨_, rfl⟩
        have HPL := Lib.hid hpl
        have HPS := Lib.hid hps
        have M5 := M4.belowB hb (by omega)
        have m1 := M5.cell 1 _ rfl
        have hb35 : Below w3.heap.size w3 w5 := HB34.out.trans (hb.mono (by have := HBM.out; omega))
        have hPr5 := HPR.out.below hb35
        have hs5 : bm + 1 ≤ w5.heap.size := by have := hb.size; omega
        clear hpl hps
        by_cases hlt : i < nf
        · obtain ⟨bF, oF, x, hFe, hbF, hx, hcF⟩ := hPr5.fns.elem fcCells_len (by omega) hlt
          obtain ⟨f, hf⟩ : ∃ f, P.fns[i]? = some f := ⟨_, List.getElem?_eq_getElem (by have := HLFS.out; omega)⟩
          have hxp := (hPr5.each.2 i x f hx hf).p
          have hho := HMK.out.fok f (List.mem_of_getElem? hf)
          obtain ⟨p, A', n', c', r', B', m', d'⟩ := x
          obtain rfl : p = f.p := hxp
          have hp0 := hho.p0
          have hp2 := hho.p2
          have f0 := hcF 0 _ rfl
          rw [Nat.add_zero] at f0
          have k0 : (0 : Int) ≤ (i : Int) := by omega
          have k1 : (i : Int) < (nf : Int) := by omega
          have hd1 : decide ((i : Int) < (nf : Int)) = true := decide_eq_true k1
          have hd2 : decide (i < nf) = true := decide_eq_true hlt
          have wi : IntKind.i64.wrap ((i : Int) + 1) = (i : Int) + 1 := IntWalk.i64_in _ (by omega)
          have q1' : i + 1 ≤ maxLen := by unfold maxLen; omega
          have q2' : (i + 1) * 8 ≤ 140737488355328 := by omega
          have hba : Below w5.heap.size w5 (w5.alloc (.cells #[.int .i64 f.p] 3)) := keep_alloc (Below.refl _ _) _
          have hfr := Reads.freshAs w5 #[.int .i64 f.p] 3 1 1 [.int .i64 f.p] rfl rfl (by decide)
          have hown6 := own_keep hownP hba
          have hs6 : bm + 1 ≤ (w5.alloc (.cells #[.int .i64 f.p] 3)).heap.size := by have := hba.size; omega
          have HB := Lib.hid (hb.alloc hs5 (.cells #[.int .i64 f.p] 3))
          subst hFe
          clear hcF hx hf hho hPr5 hb35 hba hownP hb M5
          go_wp2_with (at_builtin; refine wpList_appB rfl _ _ _ (by rfl) tyInts (by rfl) hown6 (by rfl) hfr (by simp [Value.oneCell']) q1' q2' hs6 ?_; intro v' w7 hown7 hg7 hbk7; obtain ⟨A7, c7, rfl, -⟩ := Reads.own hown7)
          go_roundw
          case rel =>
            refine ⟨i + 1, A7, c7, ps ++ [f.p], rfl, by go_num, by omega, by simp [HPL.out], ?_, ?_, HB.out.trans (below_ownN hown6 hg7 (Nat.le_refl _) hs6)⟩
            · intro q hq
              rcases List.mem_append.1 hq with hq | hq
              · exact HPS.out q hq
              · simp only [List.mem_singleton] at hq; omega
            · rw [List.flatMap_append]; exact hown7
          case measure => simp [intOf]; omega
        · have hin2 : i = nf := by omega
          subst hin2
          have hd1 : decide ((i : Int) < (i : Int)) = false := by simp
          have hd2 : decide (i < i) = false := by simp
          obtain ⟨AP, cP, eP, hPr⟩ := Reads.own hownP
          injection eP with x1 x2 x3
          subst x1 x3
          have hPb : ∀ b off, 0 < i → B = some ⟨b, off, none⟩ → bm < b ∧ b < w5.heap.size := fun b off hn e => by have := hownP.lt b (by rw [e]; rfl); omega
          have hPn : ∀ b off, B = some ⟨b, off, none⟩ → b ≠ g := fun b off e => by have := hownP.lt b (by rw [e]; rfl); omega
          have hT5 := tape_belowB hT4 hb (by omega)
          have R5 := R4.belowB hb (by omega)
          have HN5 := Lib.hid (HN3.out.below hb35 |>.more hb35.size)
          have HPR5 := Lib.hid hPr
          have HPB := Lib.hid hPb
          have HPN := Lib.hid hPn
          have HB35 := Lib.hid hb35
          have HR5 := Lib.hid R5
          have HM5 := Lib.hid M5
          have HX5 := Lib.hid hXw3
          clear hlt hPb hPn hPr hownP hPr5 hb35 M4 R4 R5 hT4 hb M5 hXw3
          go_wp2_with fail
          clear m1
          obtain ⟨b5, hb5⟩ : ∃ b5, w5.heap.size = b5 := ⟨_, rfl⟩
          have HB5 := Lib.hid hb5
          rw [hb5] at hs5
          clear hb5
          go_loopw [8] (fun x wq => ∃ (k : Nat) (M : Option Addr) (e3 : Nat) (ccs : List CC) (tq : Nat), k ≤ j ∧ x = .int .i64 k ∧ ccs.length = k ∧ wq.ownsRow b5 90 2 (.slice M k e3) k (ccs.flatMap ccCells) ∧ CodeRow wq b5 (Value.ownBlock (.slice M k e3)) ccs ∧ Blk wq bm 67 #[.slice S ns cs, .slice F i cf, .slice A j e, .slice M k e3] ∧ TapeAt wq g tq ∧ tq ≤ t3 + 100 * k ∧ OnlyX (fun q => q = g ∨ q = bm) w5 wq) (fun x _ => j - (intOf x).toNat)
          case atStart => exact ⟨0, none, 0, [], t3, Nat.zero_le _, rfl, rfl, World.ownsRow_nil _ _ _ _, CodeRow.nil, HM5.out, hT5, by omega, OnlyX.refl⟩
          case round =>
            obtain ⟨k, M, e3, ccs, t6, hk, rfl, hcl, hownM, hrow, M6, hT6, ht6, hX6⟩ := hrel
            obtain ⟨w6, rfl⟩ : ∃ w6, w6 = wr := ⟨_, rfl⟩
            have HCLN := Lib.hid hcl
            have HROW := Lib.hid hrow
            clear hcl hrow hT5
            by_cases hlt : k < j
            · obtain ⟨bA, oA, q, hAe, -, hq, hcA⟩ := (HN5.out.onlyX (X := (fun q => q = g ∨ q = bm)) (fun b off hn e hx => by have := HNB.out b off hn e; have := HBM.out; omega) hX6).elem (f := intCells) (fun _ => rfl) (by omega) hlt
              have a0 := hcA 0 _ rfl
              rw [Nat.mul_one, Nat.add_zero] at a0
              have hbA := HNB.out bA oA (by omega) hAe
              have hbA2 : bA ≠ g ∧ bA < bm := by have := HBM.out; omega
              have hq02 := HXS.out q (List.mem_of_getElem? hq)
              have k0 : (0 : Int) ≤ (k : Int) := by omega
              have k1 : (k : Int) < (j : Int) := by omega
              have hd1 : decide ((k : Int) < (j : Int)) = true := decide_eq_true k1
              have hd2 : decide (k < j) = true := decide_eq_true hlt
              have wk : IntKind.i64.wrap ((k : Int) + 1) = (k : Int) + 1 := IntWalk.i64_in _ (by omega)
              have q1' : k + 1 ≤ maxLen := by unfold maxLen; omega
              have q2' : (k + 1) * 32 ≤ 140737488355328 := by omega
              have hPd : Reads (World.drew w6) (World.drew w6).heap.size 1 B i e2 (ps.flatMap intCells) := HPR5.out.onlyX (X := (fun q => q = g ∨ q = bm)) (fun b off hn e hx => by have := HPB.out b off hn e; have := HPN.out b off e; omega) hX6.drew
              have hTc : TapeAt (World.drew w6) g t6 := hT6.below (Below.refl _ _).drew
              have HCALL := Lib.hid (HNAC.out g t6 i q B e2 ps (World.drew w6) hTc (by omega) hPd (fun b off e => HPN.out b off e) (by omega) (by omega) HPS.out)
              have MM : Blk (World.drew w6) bm 67 #[.slice S ns cs, .slice F i cf, .slice A j e, .slice M k e3] := M6.drew
              have hIc : (World.drew w6).ownsRow b5 90 2 (.slice M k e3) k (ccs.flatMap ccCells) := own_keep hownM (Below.refl _ _).drew
              have o3 := MM.cell 3 _ rfl
              have hrw : CodeRow (World.drew w6) b5 (Value.ownBlock (.slice M k e3)) ccs := HROW.out.onlyX (X := fun _ => False) OnlyX.refl.drew (fun _ _ _ h => h)
              have b5w : b5 ≤ (World.drew w6).heap.size := by have := HB5.out; have := hX6.size; show b5 ≤ w6.heap.size; omega
              subst hAe
              clear hcA hq hPd hT6 M6 hownM HROW
              go_upto_region 15 with fail
              refine wp_region_noPanic ?_
              refine wp_region_held_drew (S := fun u => OnlyX (fun q => q = g ∨ q = bm ∨ b5 ≤ q) w6 u) (by kernel_rfl) (OnlyX.refl.drew) (fun hHeld => ?_)
              refine wpAnyH_take (i := 0) (v := ?_) rfl (by kernel_rfl) (by kernel_rfl) (by kernel_rfl) (fun _ _ _ h => h) (Or.inl ⟨by rfl, ?_⟩) (by assumption) ?_
              rotate_left
              · intro wq hSw; clear hSw; go_simp; (try with_reducible rfl)
              (try simp only [List.getElem_toArray, List.getElem_cons_zero, List.getElem_cons_succ, Act.put, List.setIfInBounds_toArray, List.set_cons_zero, List.set_cons_succ])
              refine wpAnyH_take (i := 2) (v := ?_) rfl (by kernel_rfl) (by kernel_rfl) (by kernel_rfl) (fun _ _ _ h => h) (Or.inl ⟨by rfl, ?_⟩) (by assumption) ?_
              rotate_left
              · intro wq hSw; clear hSw; go_simp; (try with_reducible rfl)
              (try simp only [List.getElem_toArray, List.getElem_cons_zero, List.getElem_cons_succ, Act.put, List.setIfInBounds_toArray, List.set_cons_zero, List.set_cons_succ])
              refine wpAnyH_take (i := 3) (v := ?_) rfl (by kernel_rfl) (by kernel_rfl) (by kernel_rfl) (fun _ _ _ h => h) (Or.inl ⟨by rfl, ?_⟩) (by assumption) ?_
              rotate_left
              · intro wq hSw; clear hSw; go_simp; (try with_reducible rfl)
              (try simp only [List.getElem_toArray, List.getElem_cons_zero, List.getElem_cons_succ, Act.put, List.setIfInBounds_toArray, List.set_cons_zero, List.set_cons_succ])
              refine wpAnyH_take (i := 4) (v := ?_) rfl (by kernel_rfl) (by kernel_rfl) (by kernel_rfl) (fun _ _ _ h => h) (Or.inl ⟨by rfl, ?_⟩) (by assumption) ?_
              rotate_left
              · intro wq hSw; clear hSw; go_simp; (try with_reducible rfl)
              (try simp only [List.getElem_toArray, List.getElem_cons_zero, List.getElem_cons_succ, Act.put, List.setIfInBounds_toArray, List.set_cons_zero, List.set_cons_succ])
              refine wpAnyH_take (i := 5) (v := ?_) rfl (by kernel_rfl) (by kernel_rfl) (by kernel_rfl) (fun _ _ _ h => h) (Or.inl ⟨by rfl, ?_⟩) (by assumption) ?_
              rotate_left
              · intro wq hSw; clear hSw; go_simp; (try with_reducible rfl)
              (try simp only [List.getElem_toArray, List.getElem_cons_zero, List.getElem_cons_succ, Act.put, List.setIfInBounds_toArray, List.set_cons_zero, List.set_cons_succ])
              refine wpAnyH_take (i := 6) (v := ?_) rfl (by kernel_rfl) (by kernel_rfl) (by kernel_rfl) (fun _ _ _ h => h) (Or.inl ⟨by rfl, ?_⟩) (by assumption) ?_
              rotate_left
              · intro wq hSw; have z0 := hSw.cell a0 (by omega); clear hSw; go_simp; (try with_reducible rfl)
              (try simp only [List.getElem_toArray, List.getElem_cons_zero, List.getElem_cons_succ, Act.put, List.setIfInBounds_toArray, List.set_cons_zero, List.set_cons_succ])
              refine wpAnyH_take (i := 7) (v := ?_) rfl (by kernel_rfl) (by kernel_rfl) (by kernel_rfl) (fun _ _ _ h => h) (Or.inl ⟨by rfl, ?_⟩) (by assumption) ?_
              rotate_left
              · intro wq hSw; clear hSw; go_simp; (try with_reducible rfl)
              (try simp only [List.getElem_toArray, List.getElem_cons_zero, List.getElem_cons_succ, Act.put, List.setIfInBounds_toArray, List.set_cons_zero, List.set_cons_succ])
              refine wpAnyH_ready (rs := [1, 8]) (by kernel_rfl) (by simp) ?_
              refine AllReadyH.cons (i := 1) (by rfl) ?_ (AllReadyH.cons (i := 8) (by rfl) ?_ (AllReadyH.nil))
              · skip
                intro K' hK
                simp only [List.getElem_toArray, List.getElem_cons_zero, List.getElem_cons_succ]
                refine if_yes (by kernel_rfl) ?_
                go_big_op
                refine hK.out _ _ ?_ (fun hHeld2 => ?_)
                · exact hHeld
                clear hK K' hHeld
                have hHeld := hHeld2
                clear hHeld2
                (try simp only [List.getElem_toArray, List.getElem_cons_zero, List.getElem_cons_succ, Act.put, List.setIfInBounds_toArray, List.set_cons_zero, List.set_cons_succ])
                refine wpAnyH_ready (rs := [8]) (by kernel_rfl) (by simp) ?_
                refine AllReadyH.cons (i := 8) (by rfl) ?_ (AllReadyH.nil)
                intro K' hK
                simp only [List.getElem_toArray, List.getElem_cons_zero, List.getElem_cons_succ]
                refine if_yes (by kernel_rfl) ?_
                go_big_op
                (go_at_call 41; refine HCALL.out.mono ?_; rintro e w9 ⟨l9, A9, c9, t9, rfl, hr9, hf9, hl9, ht9, hTc', hg9⟩; obtain ⟨n9, hn9⟩ : ∃ n9, l9.length = n9 := ⟨_, rfl⟩; rw [hn9] at hr9 hf9 hl9 ⊢; clear hn9)
                refine hK.out _ _ ?_ (fun hHeld2 => ?_)
                · exact hHeld.trans ((HG1.out _ _ hg9).mono (fun q _ e => Or.inl e))
                clear hK K' hHeld
                have hHeld := hHeld2
                clear hHeld2
                (try simp only [List.getElem_toArray, List.getElem_cons_zero, List.getElem_cons_succ, Act.put, List.setIfInBounds_toArray, List.set_cons_zero, List.set_cons_succ])
                have MM := MM.onlyN hg9 (by omega)
                have hrw := hrw.onlyX (HG1.out _ _ hg9) (fun i hi _ e => by omega)
                have HNEW0 : (∃ l : List NI, Reads w9 w9.heap.size 5 A9 n9 c9 (l.flatMap insCells)) ∧ n9 ≤ 57 ∧ ∀ b off, 0 < n9 → A9 = some ⟨b, off, none⟩ → b5 ≤ b ∧ some b ≠ Value.ownBlock (.slice M k e3) := ⟨⟨l9, hr9⟩, hl9, fun b off hn e => by have h1 := hf9 b off hn e; exact ⟨Nat.le_trans b5w h1, own_ne hIc (Or.inr h1)⟩⟩
                have HNEW1 := Lib.hid HNEW0
                have hIc := own_onlyX hIc (HG1.out _ _ hg9) (fun i hi e => by have := (hIc.lt i hi).1; omega)
                have b5w : b5 ≤ w9.heap.size := Nat.le_trans b5w hg9.size
                have hTc := hTc'
                have o3 := MM.cell 3 _ rfl
                clear hTc' hg9 hr9 hf9 HNEW0
                refine wpAnyH_ready (rs := [9]) (by kernel_rfl) (by simp) ?_
                refine AllReadyH.cons (i := 9) (by rfl) ?_ (AllReadyH.nil)
                intro K' hK
                simp only [List.getElem_toArray, List.getElem_cons_zero, List.getElem_cons_succ]
                refine if_yes (by kernel_rfl) ?_
                go_big_op
                refine hK.out _ _ ?_ (fun hHeld2 => ?_)
                · exact hHeld.alloc _
                clear hK K' hHeld
                have hHeld := hHeld2
                clear hHeld2
                (try simp only [List.getElem_toArray, List.getElem_cons_zero, List.getElem_cons_succ, Act.put, List.setIfInBounds_toArray, List.set_cons_zero, List.set_cons_succ])
                have hfr := Reads.freshAs w9 #[.int .i64 q, .slice A9 n9 c9] 90 2 1 [.int .i64 q, .slice A9 n9 c9] rfl rfl (by decide)
                have hba : Below w9.heap.size w9 (w9.alloc (.cells #[.int .i64 q, .slice A9 n9 c9] 90)) := keep_alloc (Below.refl _ _) _
                have MM := MM.below hba
                have hIc := own_keep hIc hba
                have hTc := hTc.below hba
                have hrw := hrw.onlyX (X := fun _ => False) (OnlyX.belowU hba) (fun _ _ _ h => h)
                have HNEW := Lib.hid (show (∃ l : List NI, Reads (w9.alloc (.cells #[.int .i64 q, .slice A9 n9 c9] 90)) (w9.alloc (.cells #[.int .i64 q, .slice A9 n9 c9] 90)).heap.size 5 A9 n9 c9 (l.flatMap insCells)) ∧ n9 ≤ 57 ∧ ∀ b off, 0 < n9 → A9 = some ⟨b, off, none⟩ → b5 ≤ b ∧ some b ≠ Value.ownBlock (.slice M k e3) from ⟨⟨HNEW1.out.1.choose, HNEW1.out.1.choose_spec.belowU hba⟩, HNEW1.out.2⟩)
                have b5w := Nat.le_trans b5w hba.size
                have o3 := MM.cell 3 _ rfl
                clear hba
                refine wpAnyH_ready (rs := [10]) (by kernel_rfl) (by simp) ?_
                refine AllReadyH.cons (i := 10) (by rfl) ?_ (AllReadyH.nil)
                intro K' hK
                refine step_appB rfl _ _ _ (by rfl) tyRCodes (by rfl) hIc (by rfl) hfr (by simp [Value.oneCell']) q1' q2' b5w ?_; intro v' w10 hown10 hg10 hbk10; obtain ⟨A10, c10, rfl, -⟩ := Reads.own hown10
                refine hK.out _ _ ?_ (fun hHeld2 => ?_)
                · exact hHeld.row hg10 (fun q hq _ => Or.inr (Or.inr (hIc.lt q hq).1))
                clear hK K' hHeld
                have hHeld := hHeld2
                clear hHeld2
                (try simp only [List.getElem_toArray, List.getElem_cons_zero, List.getElem_cons_succ, Act.put, List.setIfInBounds_toArray, List.set_cons_zero, List.set_cons_succ])
                have MM := MM.onlyX (X := fun i => (Value.slice M k e3).ownBlock = some i) (fun e => by have := (hIc.lt _ e).1; omega) (OnlyX.grown hg10)
                have o3 := MM.cell 3 _ rfl
                have off := MM.free
                have hTc := tape_row hTc hg10 (fun e => by have := (hIc.lt _ e).1; omega)
                refine wpAnyH_take (i := 11) (v := ?_) rfl (by kernel_rfl) (by kernel_rfl) (by kernel_rfl) (fun _ _ _ h => h) (Or.inl ⟨by rfl, ?_⟩) (by assumption) ?_
                rotate_left
                · intro wq hSw; clear hSw; go_simp; (try with_reducible rfl)
                (try simp only [List.getElem_toArray, List.getElem_cons_zero, List.getElem_cons_succ, Act.put, List.setIfInBounds_toArray, List.set_cons_zero, List.set_cons_succ])
                refine wpAnyH_ready (rs := [12]) (by kernel_rfl) (by simp) ?_
                refine AllReadyH.cons (i := 12) (by rfl) ?_ (AllReadyH.nil)
                intro K' hK
                simp only [List.getElem_toArray, List.getElem_cons_zero, List.getElem_cons_succ]
                refine if_yes (by kernel_rfl) ?_
                go_big_op
                refine hK.out _ _ ?_ (fun hHeld2 => ?_)
                · exact hHeld.set (p := ⟨bm, 3, none⟩) (fun _ => Or.inr (Or.inl rfl)) _
                clear hK K' hHeld
                have hHeld := hHeld2
                clear hHeld2
                (try simp only [List.getElem_toArray, List.getElem_cons_zero, List.getElem_cons_succ, Act.put, List.setIfInBounds_toArray, List.set_cons_zero, List.set_cons_succ])
                refine wpAnyH_done (by kernel_rfl) ?_ _
                refine NoPanic.normal ?_
                have hTf := hTc.setN (p := ⟨bm, 3, none⟩) (by show g < bm; omega) (.slice A10 (k + 1) c10)
                have hMf := MM.set 3 (.slice A10 (k + 1) c10)
                have hIf := ownsRow_setCell_below hown10 (a := ⟨bm, 3, none⟩) (by show bm < b5; omega) (.slice A10 (k + 1) c10)
                have hRf := ((hrw.snoc (x := ⟨q, A9, n9, c9⟩) HNEW.out).grown hg10 hbk10).onlyX (X := fun i => i = bm) ((OnlyX.refl (X := fun i => i = bm)).set (p := ⟨bm, 3, none⟩) (fun _ => rfl) (.slice A10 (k + 1) c10)) (fun i hi _ e => by omega)
                have hXf : OnlyX (fun q => q = g ∨ q = bm) w5 _ := hX6.more hHeld (fun q hq h => by have := HB5.out; rcases h with h | h | h; (· exact Or.inl h); (· exact Or.inr h); (· omega))
                have HXF := Lib.hid hXf
                have HRF := Lib.hid hRf
                clear o3 off MM hTc hHeld hown10 hfr hXf hIc hrw hRf
                go_wp2_with fail
                go_roundw
                case rel =>
                  refine ⟨k + 1, A10, c10, ccs ++ [⟨q, A9, n9, c9⟩], t9, by omega, by go_num, by simp [HCLN.out], ?_, HRF.out, hMf, hTf, by omega, HXF.out⟩
                  rw [List.flatMap_append]; exact hIf
                case measure => simp [intOf]; omega
              · skip
                intro K' hK
                simp only [List.getElem_toArray, List.getElem_cons_zero, List.getElem_cons_succ]
                refine if_yes (by kernel_rfl) ?_
                go_big_op
                (go_at_call 41; refine HCALL.out.mono ?_; rintro e w9 ⟨l9, A9, c9, t9, rfl, hr9, hf9, hl9, ht9, hTc', hg9⟩; obtain ⟨n9, hn9⟩ : ∃ n9, l9.length = n9 := ⟨_, rfl⟩; rw [hn9] at hr9 hf9 hl9 ⊢; clear hn9)
                refine hK.out _ _ ?_ (fun hHeld2 => ?_)
                · exact hHeld.trans ((HG1.out _ _ hg9).mono (fun q _ e => Or.inl e))
                clear hK K' hHeld
                have hHeld := hHeld2
                clear hHeld2
                (try simp only [List.getElem_toArray, List.getElem_cons_zero, List.getElem_cons_succ, Act.put, List.setIfInBounds_toArray, List.set_cons_zero, List.set_cons_succ])
                have MM := MM.onlyN hg9 (by omega)
                have hrw := hrw.onlyX (HG1.out _ _ hg9) (fun i hi _ e => by omega)
                have HNEW0 : (∃ l : List NI, Reads w9 w9.heap.size 5 A9 n9 c9 (l.flatMap insCells)) ∧ n9 ≤ 57 ∧ ∀ b off, 0 < n9 → A9 = some ⟨b, off, none⟩ → b5 ≤ b ∧ some b ≠ Value.ownBlock (.slice M k e3) := ⟨⟨l9, hr9⟩, hl9, fun b off hn e => by have h1 := hf9 b off hn e; exact ⟨Nat.le_trans b5w h1, own_ne hIc (Or.inr h1)⟩⟩
                have HNEW1 := Lib.hid HNEW0
                have hIc := own_onlyX hIc (HG1.out _ _ hg9) (fun i hi e => by have := (hIc.lt i hi).1; omega)
                have b5w : b5 ≤ w9.heap.size := Nat.le_trans b5w hg9.size
                have hTc := hTc'
                have o3 := MM.cell 3 _ rfl
                clear hTc' hg9 hr9 hf9 HNEW0
                refine wpAnyH_ready (rs := [1, 9]) (by kernel_rfl) (by simp) ?_
                refine AllReadyH.cons (i := 1) (by rfl) ?_ (AllReadyH.cons (i := 9) (by rfl) ?_ (AllReadyH.nil))
                · skip
                  intro K' hK
                  simp only [List.getElem_toArray, List.getElem_cons_zero, List.getElem_cons_succ]
                  refine if_yes (by kernel_rfl) ?_
                  go_big_op
                  refine hK.out _ _ ?_ (fun hHeld2 => ?_)
                  · exact hHeld
                  clear hK K' hHeld
                  have hHeld := hHeld2
                  clear hHeld2
                  (try simp only [List.getElem_toArray, List.getElem_cons_zero, List.getElem_cons_succ, Act.put, List.setIfInBounds_toArray, List.set_cons_zero, List.set_cons_succ])
                  refine wpAnyH_ready (rs := [9]) (by kernel_rfl) (by simp) ?_
                  refine AllReadyH.cons (i := 9) (by rfl) ?_ (AllReadyH.nil)
                  intro K' hK
                  simp only [List.getElem_toArray, List.getElem_cons_zero, List.getElem_cons_succ]
                  refine if_yes (by kernel_rfl) ?_
                  go_big_op
                  refine hK.out _ _ ?_ (fun hHeld2 => ?_)
                  · exact hHeld.alloc _
                  clear hK K' hHeld
                  have hHeld := hHeld2
                  clear hHeld2
                  (try simp only [List.getElem_toArray, List.getElem_cons_zero, List.getElem_cons_succ, Act.put, List.setIfInBounds_toArray, List.set_cons_zero, List.set_cons_succ])
                  have hfr := Reads.freshAs w9 #[.int .i64 q, .slice A9 n9 c9] 90 2 1 [.int .i64 q, .slice A9 n9 c9] rfl rfl (by decide)
                  have hba : Below w9.heap.size w9 (w9.alloc (.cells #[.int .i64 q, .slice A9 n9 c9] 90)) := keep_alloc (Below.refl _ _) _
                  have MM := MM.below hba
                  have hIc := own_keep hIc hba
                  have hTc := hTc.below hba
                  have hrw := hrw.onlyX (X := fun _ => False) (OnlyX.belowU hba) (fun _ _ _ h => h)
                  have HNEW := Lib.hid (show (∃ l : List NI, Reads (w9.alloc (.cells #[.int .i64 q, .slice A9 n9 c9] 90)) (w9.alloc (.cells #[.int .i64 q, .slice A9 n9 c9] 90)).heap.size 5 A9 n9 c9 (l.flatMap insCells)) ∧ n9 ≤ 57 ∧ ∀ b off, 0 < n9 → A9 = some ⟨b, off, none⟩ → b5 ≤ b ∧ some b ≠ Value.ownBlock (.slice M k e3) from ⟨⟨HNEW1.out.1.choose, HNEW1.out.1.choose_spec.belowU hba⟩, HNEW1.out.2⟩)
                  have b5w := Nat.le_trans b5w hba.size
                  have o3 := MM.cell 3 _ rfl
                  clear hba
                  refine wpAnyH_ready (rs := [10]) (by kernel_rfl) (by simp) ?_
                  refine AllReadyH.cons (i := 10) (by rfl) ?_ (AllReadyH.nil)
                  intro K' hK
                  refine step_appB rfl _ _ _ (by rfl) tyRCodes (by rfl) hIc (by rfl) hfr (by simp [Value.oneCell']) q1' q2' b5w ?_; intro v' w10 hown10 hg10 hbk10; obtain ⟨A10, c10, rfl, -⟩ := Reads.own hown10
                  refine hK.out _ _ ?_ (fun hHeld2 => ?_)
                  · exact hHeld.row hg10 (fun q hq _ => Or.inr (Or.inr (hIc.lt q hq).1))
                  clear hK K' hHeld
                  have hHeld := hHeld2
                  clear hHeld2
                  (try simp only [List.getElem_toArray, List.getElem_cons_zero, List.getElem_cons_succ, Act.put, List.setIfInBounds_toArray, List.set_cons_zero, List.set_cons_succ])
                  have MM := MM.onlyX (X := fun i => (Value.slice M k e3).ownBlock = some i) (fun e => by have := (hIc.lt _ e).1; omega) (OnlyX.grown hg10)
                  have o3 := MM.cell 3 _ rfl
                  have off := MM.free
                  have hTc := tape_row hTc hg10 (fun e => by have := (hIc.lt _ e).1; omega)
                  refine wpAnyH_take (i := 11) (v := ?_) rfl (by kernel_rfl) (by kernel_rfl) (by kernel_rfl) (fun _ _ _ h => h) (Or.inl ⟨by rfl, ?_⟩) (by assumption) ?_
                  rotate_left
                  · intro wq hSw; clear hSw; go_simp; (try with_reducible rfl)
                  (try simp only [List.getElem_toArray, List.getElem_cons_zero, List.getElem_cons_succ, Act.put, List.setIfInBounds_toArray, List.set_cons_zero, List.set_cons_succ])
                  refine wpAnyH_ready (rs := [12]) (by kernel_rfl) (by simp) ?_
                  refine AllReadyH.cons (i := 12) (by rfl) ?_ (AllReadyH.nil)
                  intro K' hK
                  simp only [List.getElem_toArray, List.getElem_cons_zero, List.getElem_cons_succ]
                  refine if_yes (by kernel_rfl) ?_
                  go_big_op
                  refine hK.out _ _ ?_ (fun hHeld2 => ?_)
                  · exact hHeld.set (p := ⟨bm, 3, none⟩) (fun _ => Or.inr (Or.inl rfl)) _
                  clear hK K' hHeld
                  have hHeld := hHeld2
                  clear hHeld2
                  (try simp only [List.getElem_toArray, List.getElem_cons_zero, List.getElem_cons_succ, Act.put, List.setIfInBounds_toArray, List.set_cons_zero, List.set_cons_succ])
                  refine wpAnyH_done (by kernel_rfl) ?_ _
                  refine NoPanic.normal ?_
                  have hTf := hTc.setN (p := ⟨bm, 3, none⟩) (by show g < bm; omega) (.slice A10 (k + 1) c10)
                  have hMf := MM.set 3 (.slice A10 (k + 1) c10)
                  have hIf := ownsRow_setCell_below hown10 (a := ⟨bm, 3, none⟩) (by show bm < b5; omega) (.slice A10 (k + 1) c10)
                  have hRf := ((hrw.snoc (x := ⟨q, A9, n9, c9⟩) HNEW.out).grown hg10 hbk10).onlyX (X := fun i => i = bm) ((OnlyX.refl (X := fun i => i = bm)).set (p := ⟨bm, 3, none⟩) (fun _ => rfl) (.slice A10 (k + 1) c10)) (fun i hi _ e => by omega)
                  have hXf : OnlyX (fun q => q = g ∨ q = bm) w5 _ := hX6.more hHeld (fun q hq h => by have := HB5.out; rcases h with h | h | h; (· exact Or.inl h); (· exact Or.inr h); (· omega))
                  have HXF := Lib.hid hXf
                  have HRF := Lib.hid hRf
                  clear o3 off MM hTc hHeld hown10 hfr hXf hIc hrw hRf
                  go_wp2_with fail
                  go_roundw
                  case rel =>
                    refine ⟨k + 1, A10, c10, ccs ++ [⟨q, A9, n9, c9⟩], t9, by omega, by go_num, by simp [HCLN.out], ?_, HRF.out, hMf, hTf, by omega, HXF.out⟩
                    rw [List.flatMap_append]; exact hIf
                  case measure => simp [intOf]; omega
                · skip
                  intro K' hK
                  simp only [List.getElem_toArray, List.getElem_cons_zero, List.getElem_cons_succ]
                  refine if_yes (by kernel_rfl) ?_
                  go_big_op
                  refine hK.out _ _ ?_ (fun hHeld2 => ?_)
                  · exact hHeld.alloc _
                  clear hK K' hHeld
                  have hHeld := hHeld2
                  clear hHeld2
                  (try simp only [List.getElem_toArray, List.getElem_cons_zero, List.getElem_cons_succ, Act.put, List.setIfInBounds_toArray, List.set_cons_zero, List.set_cons_succ])
                  have hfr := Reads.freshAs w9 #[.int .i64 q, .slice A9 n9 c9] 90 2 1 [.int .i64 q, .slice A9 n9 c9] rfl rfl (by decide)
                  have hba : Below w9.heap.size w9 (w9.alloc (.cells #[.int .i64 q, .slice A9 n9 c9] 90)) := keep_alloc (Below.refl _ _) _
                  have MM := MM.below hba
                  have hIc := own_keep hIc hba
                  have hTc := hTc.below hba
                  have hrw := hrw.onlyX (X := fun _ => False) (OnlyX.belowU hba) (fun _ _ _ h => h)
                  have HNEW := Lib.hid (show (∃ l : List NI, Reads (w9.alloc (.cells #[.int .i64 q, .slice A9 n9 c9] 90)) (w9.alloc (.cells #[.int .i64 q, .slice A9 n9 c9] 90)).heap.size 5 A9 n9 c9 (l.flatMap insCells)) ∧ n9 ≤ 57 ∧ ∀ b off, 0 < n9 → A9 = some ⟨b, off, none⟩ → b5 ≤ b ∧ some b ≠ Value.ownBlock (.slice M k e3) from ⟨⟨HNEW1.out.1.choose, HNEW1.out.1.choose_spec.belowU hba⟩, HNEW1.out.2⟩)
                  have b5w := Nat.le_trans b5w hba.size
                  have o3 := MM.cell 3 _ rfl
                  clear hba
                  refine wpAnyH_ready (rs := [1]) (by kernel_rfl) (by simp) ?_
                  refine AllReadyH.cons (i := 1) (by rfl) ?_ (AllReadyH.nil)
                  intro K' hK
                  simp only [List.getElem_toArray, List.getElem_cons_zero, List.getElem_cons_succ]
                  refine if_yes (by kernel_rfl) ?_
                  go_big_op
                  refine hK.out _ _ ?_ (fun hHeld2 => ?_)
                  · exact hHeld
                  clear hK K' hHeld
                  have hHeld := hHeld2
                  clear hHeld2
                  (try simp only [List.getElem_toArray, List.getElem_cons_zero, List.getElem_cons_succ, Act.put, List.setIfInBounds_toArray, List.set_cons_zero, List.set_cons_succ])
                  refine wpAnyH_ready (rs := [10]) (by kernel_rfl) (by simp) ?_
                  refine AllReadyH.cons (i := 10) (by rfl) ?_ (AllReadyH.nil)
                  intro K' hK
                  refine step_appB rfl _ _ _ (by rfl) tyRCodes (by rfl) hIc (by rfl) hfr (by simp [Value.oneCell']) q1' q2' b5w ?_; intro v' w10 hown10 hg10 hbk10; obtain ⟨A10, c10, rfl, -⟩ := Reads.own hown10
                  refine hK.out _ _ ?_ (fun hHeld2 => ?_)
                  · exact hHeld.row hg10 (fun q hq _ => Or.inr (Or.inr (hIc.lt q hq).1))
                  clear hK K' hHeld
                  have hHeld := hHeld2
                  clear hHeld2
                  (try simp only [List.getElem_toArray, List.getElem_cons_zero, List.getElem_cons_succ, Act.put, List.setIfInBounds_toArray, List.set_cons_zero, List.set_cons_succ])
                  have MM := MM.onlyX (X := fun i => (Value.slice M k e3).ownBlock = some i) (fun e => by have := (hIc.lt _ e).1; omega) (OnlyX.grown hg10)
                  have o3 := MM.cell 3 _ rfl
                  have off := MM.free
                  have hTc := tape_row hTc hg10 (fun e => by have := (hIc.lt _ e).1; omega)
                  refine wpAnyH_take (i := 11) (v := ?_) rfl (by kernel_rfl) (by kernel_rfl) (by kernel_rfl) (fun _ _ _ h => h) (Or.inl ⟨by rfl, ?_⟩) (by assumption) ?_
                  rotate_left
                  · intro wq hSw; clear hSw; go_simp; (try with_reducible rfl)
                  (try simp only [List.getElem_toArray, List.getElem_cons_zero, List.getElem_cons_succ, Act.put, List.setIfInBounds_toArray, List.set_cons_zero, List.set_cons_succ])
                  refine wpAnyH_ready (rs := [12]) (by kernel_rfl) (by simp) ?_
                  refine AllReadyH.cons (i := 12) (by rfl) ?_ (AllReadyH.nil)
                  intro K' hK
                  simp only [List.getElem_toArray, List.getElem_cons_zero, List.getElem_cons_succ]
                  refine if_yes (by kernel_rfl) ?_
                  go_big_op
                  refine hK.out _ _ ?_ (fun hHeld2 => ?_)
                  · exact hHeld.set (p := ⟨bm, 3, none⟩) (fun _ => Or.inr (Or.inl rfl)) _
                  clear hK K' hHeld
                  have hHeld := hHeld2
                  clear hHeld2
                  (try simp only [List.getElem_toArray, List.getElem_cons_zero, List.getElem_cons_succ, Act.put, List.setIfInBounds_toArray, List.set_cons_zero, List.set_cons_succ])
                  refine wpAnyH_done (by kernel_rfl) ?_ _
                  refine NoPanic.normal ?_
                  have hTf := hTc.setN (p := ⟨bm, 3, none⟩) (by show g < bm; omega) (.slice A10 (k + 1) c10)
                  have hMf := MM.set 3 (.slice A10 (k + 1) c10)
                  have hIf := ownsRow_setCell_below hown10 (a := ⟨bm, 3, none⟩) (by show bm < b5; omega) (.slice A10 (k + 1) c10)
                  have hRf := ((hrw.snoc (x := ⟨q, A9, n9, c9⟩) HNEW.out).grown hg10 hbk10).onlyX (X := fun i => i = bm) ((OnlyX.refl (X := fun i => i = bm)).set (p := ⟨bm, 3, none⟩) (fun _ => rfl) (.slice A10 (k + 1) c10)) (fun i hi _ e => by omega)
                  have hXf : OnlyX (fun q => q = g ∨ q = bm) w5 _ := hX6.more hHeld (fun q hq h => by have := HB5.out; rcases h with h | h | h; (· exact Or.inl h); (· exact Or.inr h); (· omega))
                  have HXF := Lib.hid hXf
                  have HRF := Lib.hid hRf
                  clear o3 off MM hTc hHeld hown10 hfr hXf hIc hrw hRf
                  go_wp2_with fail
                  go_roundw
                  case rel =>
                    refine ⟨k + 1, A10, c10, ccs ++ [⟨q, A9, n9, c9⟩], t9, by omega, by go_num, by simp [HCLN.out], ?_, HRF.out, hMf, hTf, by omega, HXF.out⟩
                    rw [List.flatMap_append]; exact hIf
                  case measure => simp [intOf]; omega
            · have hkj : k = j := by omega
              subst hkj
              have hd1 : decide ((k : Int) < (k : Int)) = false := by simp
              have hd2 : decide (k < k) = false := by simp
              have R6 := HR5.out.onlyX (X := (fun q => q = g ∨ q = bm)) (by omega) hX6
              have c0 := R6.cell 0 _ rfl
              have c1 := R6.cell 1 _ rfl
              have c2 := R6.cell 2 _ rfl
              have c3 := R6.cell 3 _ rfl
              have cfr := R6.free
              have m0 := M6.cell 0 _ rfl
              have m1 := M6.cell 1 _ rfl
              have m2 := M6.cell 2 _ rfl
              have m3 := M6.cell 3 _ rfl
              have h6f : OnlyX (fun q => q = r0) w6 ((((w6.setCell ⟨r0, 0, none⟩ (.slice S ns cs)).setCell ⟨r0, 1, none⟩ (.slice F i cf)).setCell ⟨r0, 2, none⟩ (.slice A k e)).setCell ⟨r0, 3, none⟩ (.slice M k e3)) := ((((OnlyX.refl (X := fun q => q = r0)).set (p := ⟨r0, 0, none⟩) (fun _ => rfl) _).set (p := ⟨r0, 1, none⟩) (fun _ => rfl) _).set (p := ⟨r0, 2, none⟩) (fun _ => rfl) _).set (p := ⟨r0, 3, none⟩) (fun _ => rfl) _
              have h36 : OnlyX (fun q => q = g) w3 w6 := (OnlyX.belowU HB35.out).more hX6 (fun q hq h => by have := HBM.out; rcases h with h | h; (· exact h); (· omega))
              have h3f : OnlyX (fun q => q = g ∨ q = r0) w3 ((((w6.setCell ⟨r0, 0, none⟩ (.slice S ns cs)).setCell ⟨r0, 1, none⟩ (.slice F i cf)).setCell ⟨r0, 2, none⟩ (.slice A k e)).setCell ⟨r0, 3, none⟩ (.slice M k e3)) := (h36.mono (fun q _ h => Or.inl h)).trans (h6f.mono (fun q _ h => Or.inr h))
              have hPf := HCL.out (fun q => q = g ∨ q = r0) ((((w6.setCell ⟨r0, 0, none⟩ (.slice S ns cs)).setCell ⟨r0, 1, none⟩ (.slice F i cf)).setCell ⟨r0, 2, none⟩ (.slice A k e)).setCell ⟨r0, 3, none⟩ (.slice M k e3)) (fun q h => by rcases h with h | h <;> omega) (fun b off hn e hx => by have := HNB.out b off hn e; rcases hx with hx | hx <;> omega) h3f
              have hwf : OnlyX (fun q => q = g) w ((((w6.setCell ⟨r0, 0, none⟩ (.slice S ns cs)).setCell ⟨r0, 1, none⟩ (.slice F i cf)).setCell ⟨r0, 2, none⟩ (.slice A k e)).setCell ⟨r0, 3, none⟩ (.slice M k e3)) := (HX5.out.trans h36).more h6f (fun q hq h => by have := HR0.out; omega)
              obtain ⟨A7, c7, e7, hMR⟩ := Reads.own (own_onlyX hownM h6f (fun q hq h => by have := (hownM.lt q hq).1; omega))
              injection e7 with x1 x2 x3
              subst x1 x3
              have hCf : CodesAt ((((w6.setCell ⟨r0, 0, none⟩ (.slice S ns cs)).setCell ⟨r0, 1, none⟩ (.slice F i cf)).setCell ⟨r0, 2, none⟩ (.slice A k e)).setCell ⟨r0, 3, none⟩ (.slice M k e3)) ccs := fun x hm => by
                obtain ⟨h1, h2, -⟩ := (HROW.out.onlyX h6f (fun q hq _ h => by omega)) x hm
                exact ⟨h1, h2⟩
              have HPF := Lib.hid hPf
              have HWF := Lib.hid hwf
              have HMR := Lib.hid hMR
              have HCF := Lib.hid hCf
              clear h6f h36 h3f hPf hwf hMR hCf hlt R6 M6 hownM hX6 hT6
              go_wp2_with fail
              refine bodyPost_ret (v := imgV S ns cs F i cf A k e M k e3) (by simp [results, Tryd.results20, go_sem, c0, c1, c2, c3]) rfl ?_
              exact ⟨S, ns, cs, F, i, cf, A, k, e, M, k, e3, fcs, P, ccs, rfl, HPF.out, HMK.out, HMR.out, HCF.out, by omega, HWF.out⟩
end Go.Proofs.YtnnchinpmnpfiaaDoor

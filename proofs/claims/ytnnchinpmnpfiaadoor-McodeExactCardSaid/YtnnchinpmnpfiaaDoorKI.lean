/- A COPY (mk_mcopies.py). The contract of Native: a native program that is made. -/
import Derived.Test.YtnnchinpmnpfiaaDoorKH
import Derived.Test.YtnnchinpmnpfiaaDoorKA
import Derived.Deep.RegionLaw
namespace Go.Proofs.YtnnchinpmnpfiaaDoor
open Go.RowKit Words
theorem code_alloc (w : World) (t : TypeId) (g : Int) (A : Option Addr) (n c : Nat) : Below w.heap.size w (w.alloc (.cells #[.int .i64 g, .slice A n c] t)) := keep_alloc (Below.refl _ _) _
theorem take_nx {α : Type} {l : List α} {k : Nat} {a : α} (h : l[k]? = some a) : l.take (k + 1) = l.take k ++ [a] := by
  rw [List.take_add_one, h]
  rfl

theorem TapeAt.belowB {w w' : World} {g a B : Nat} (h : TapeAt w g a) (hb : Below B w w') (hg : g < B) : TapeAt w' g a := by
  obtain ⟨A, n, c, l, hB, hr⟩ := h
  exact ⟨A, n, c, l, hB.belowB hb hg, hr.below (hb.mono (by omega))⟩
theorem TapeAt.set {w : World} {g a : Nat} (h : TapeAt w g a) {p : Addr} (hp : g < p.block) (u : Value) : TapeAt (w.setCell p u) g a := by
  obtain ⟨A, n, c, l, hB, hr⟩ := h
  exact ⟨A, n, c, l, hB.far (by omega) u, hr.setCell (by omega) u⟩
theorem TapeAt.drew {w : World} {g a : Nat} (h : TapeAt w g a) : TapeAt w.drew g a := by
  obtain ⟨A, n, c, l, hB, hr⟩ := h
  exact ⟨A, n, c, l, hB.drew, hr.drew⟩
theorem Blk.only {w w' : World} {g b : Nat} {t : TypeId} {cs : Array Value} (h : Blk w b t cs) (ho : w.grownBy w' (some g)) (hne : b ≠ g) : Blk w' b t cs := (ho.block b h.lt (by simp; omega)).trans h
theorem own_only {w w' : World} {base n s g : Nat} {e : TypeId} {v : Value} {xs : List Value} (h : w.ownsRow base e s v n xs) (ho : w.grownBy w' (some g)) (hg : g < base) : w'.ownsRow base e s v n xs :=
  h.kept ho (Or.inr (fun he => own_ne h (b := g) (Or.inl hg) he.symm))

/-- what is so of each instruction of a program that is made -/
structure Fit (n : Nat) (fl : List Int) (x : NI) : Prop where
  form : formedI x = true
  jump : x.op = 9 ∨ x.op = 10 → U x.k ≤ n
  regs : ((2 ≤ x.op ∧ x.op ≤ 8) ∨ x.op = 11 ∨ x.op = 12) → x.b ≤ 7
  call : x.op = 13 → (1 ≤ x.b ∧ x.b ≤ 20) ∧ x.c + argsN x.b ≤ 8
  up : x.op = 14 → ∃ p, fl[x.b.toNat]? = some p ∧ x.c + p ≤ 8
theorem set_mid5 {α : Type} (P : List α) (x y : α) (r : List α) (k : Nat) (hk : P.length = k) : (P ++ x :: r).set k y = (P ++ [y]) ++ r := by
  subst hk
  rw [List.set_append_right _ _ (Nat.le_refl _), Nat.sub_self, List.set_cons_zero, List.append_assoc]
  rfl
theorem at_mid5 {α : Type} (P : List α) (x : α) (r : List α) (k : Nat) (hk : P.length = k) : (P ++ x :: r)[k]? = some x := by
  subst hk
  rw [List.getElem?_append_right (Nat.le_refl _), Nat.sub_self]
  rfl
theorem set_flat5 {α : Type} (f : α → List Value) (s : Nat) (hs : ∀ a, (f a).length = s) (l : List α) (k j : Nat) (u : Value) (a a' : α) (hk : l[k]? = some a) (hj : j < s) (ha : f a' = (f a).set j u) :
    (l.flatMap f).set (k * s + j) u = (l.set k a').flatMap f := by
  induction l generalizing k with
  | nil => simp at hk
  | cons b r ih =>
    cases k with
    | zero =>
      simp at hk
      subst hk
      rw [List.set_cons_zero, List.flatMap_cons, List.flatMap_cons, Nat.zero_mul, Nat.zero_add, List.set_append_left _ _ (by rw [hs]; exact hj), ha]
    | succ k =>
      simp at hk
      rw [List.set_cons_succ, List.flatMap_cons, List.flatMap_cons, List.set_append_right _ _ (by rw [hs, Nat.succ_mul]; omega), hs, ← ih k hk]
      congr 2
      rw [Nat.succ_mul]; omega
theorem only_belowB {w w1 w2 : World} {g B : Nat} (h : w.grownBy w1 (some g)) (hb : Below B w1 w2) (hB : w.heap.size ≤ B) : w.grownBy w2 (some g) :=
  ⟨hb.os.trans h.os, hb.tape.trans h.tape, hb.output.trans h.output, Nat.le_trans h.size hb.size, fun i hi hne => (hb.block i (by omega)).trans (h.block i hi hne)⟩
/-- an instruction behind the second loop: jumps stay within, calls have their registers -/
def fixN (n : Nat) (fl : List Int) (x : NI) : NI :=
  ⟨x.op, x.a, x.b, if (x.op = 13 ∧ 8 < x.c + argsN x.b) ∨ (x.op = 14 ∧ 8 < x.c + (fl[x.b.toNat]?).getD 0) then 0 else x.c, if x.op = 9 ∨ x.op = 10 then (if U x.k ≤ n then x.k else BitVec.ofNat 64 n) else x.k⟩
theorem fixN_gt {n : Nat} {fl : List Int} {op a b c : Int} {k : BitVec 64} (ho : op = 9 ∨ op = 10) (h : (n : Int) < U k) : fixN n fl ⟨op, a, b, c, k⟩ = ⟨op, a, b, c, BitVec.ofNat 64 n⟩ := by
  unfold fixN
  dsimp only
  rw [if_neg (by rintro (⟨h1, _⟩ | ⟨h1, _⟩) <;> omega), if_pos ho, if_neg (Int.not_le.2 h)]
theorem fixN_le {n : Nat} {fl : List Int} {op a b c : Int} {k : BitVec 64} (ho : op = 9 ∨ op = 10) (h : ¬ (n : Int) < U k) : fixN n fl ⟨op, a, b, c, k⟩ = ⟨op, a, b, c, k⟩ := by
  unfold fixN
  dsimp only
  rw [if_neg (by rintro (⟨h1, _⟩ | ⟨h1, _⟩) <;> omega), if_pos ho, if_pos (Int.not_lt.1 h)]
theorem fixN_13 {n : Nat} {fl : List Int} {a b c : Int} {k : BitVec 64} (h : 8 < c + argsN b) : fixN n fl ⟨13, a, b, c, k⟩ = ⟨13, a, b, 0, k⟩ := by
  unfold fixN
  dsimp only
  rw [if_pos (Or.inl ⟨rfl, h⟩), if_neg (by rintro (h1 | h1) <;> omega)]
theorem fixN_13s {n : Nat} {fl : List Int} {a b c : Int} {k : BitVec 64} (h : ¬ 8 < c + argsN b) : fixN n fl ⟨13, a, b, c, k⟩ = ⟨13, a, b, c, k⟩ := by
  unfold fixN
  dsimp only
  rw [if_neg (by rintro (⟨_, h2⟩ | ⟨h1, _⟩); exact h h2; omega), if_neg (by rintro (h1 | h1) <;> omega)]
theorem fixN_14 {n : Nat} {fl : List Int} {a c p : Int} {b : Nat} {k : BitVec 64} (hp : fl[b]? = some p) (h : 8 < c + p) : fixN n fl ⟨14, a, b, c, k⟩ = ⟨14, a, b, 0, k⟩ := by
  unfold fixN
  dsimp only
  rw [if_pos (Or.inr ⟨rfl, by rw [Int.toNat_natCast, hp]; exact h⟩), if_neg (by rintro (h1 | h1) <;> omega)]
theorem fixN_14s {n : Nat} {fl : List Int} {a c p : Int} {b : Nat} {k : BitVec 64} (hp : fl[b]? = some p) (h : ¬ 8 < c + p) : fixN n fl ⟨14, a, b, c, k⟩ = ⟨14, a, b, c, k⟩ := by
  unfold fixN
  dsimp only
  rw [if_neg (by rintro (⟨h1, _⟩ | ⟨_, h2⟩); omega; rw [Int.toNat_natCast, hp] at h2; exact h h2), if_neg (by rintro (h1 | h1) <;> omega)]
theorem fixN_else {n : Nat} {fl : List Int} {x : NI} (h1 : ¬ (x.op = 9 ∨ x.op = 10)) (h2 : ¬ x.op = 13) (h3 : ¬ x.op = 14) : fixN n fl x = x := by
  unfold fixN
  rw [if_neg (by rintro (⟨h, _⟩ | ⟨h, _⟩); exact h2 h; exact h3 h), if_neg h1]
theorem fixN_fit {nf n n' : Nat} {fl : List Int} {x : NI} (hl : fl.length = nf) (hfl : ∀ p ∈ fl, 0 ≤ p ∧ p ≤ 3) (h : R0 nf x) (hn : n ≤ n') (hn2 : n ≤ 1000) : Fit n' fl (fixN n fl x) := by
  obtain ⟨h1, h2, h3, h4⟩ := h
  obtain ⟨ho, ha, hb, hc⟩ := (formedI_iff x).1 h1
  have har := argsN_range x.b
  have hcc : 0 ≤ (fixN n fl x).c ∧ (fixN n fl x).c ≤ x.c := by unfold fixN; dsimp only; split <;> omega
  refine ⟨(formedI_iff _).2 ⟨ho, ha, hb, hcc.1, by omega⟩, fun hj => ?_, h4, fun h13 => ⟨h3 h13, ?_⟩, fun h14 => ?_⟩
  · unfold fixN
    dsimp only
    rw [if_pos (show x.op = 9 ∨ x.op = 10 from hj)]
    split
    · omega
    · rw [U_ofNat _ (by omega)]; omega
  · have h13' : x.op = 13 := h13
    unfold fixN
    dsimp only
    split
    · omega
    · rename_i hx
      have : ¬ (x.op = 13 ∧ 8 < x.c + argsN x.b) := fun e => hx (Or.inl e)
      omega
  · have h14' : x.op = 14 := h14
    have hlt : x.b.toNat < fl.length := by have := h2 h14'; omega
    have hg : fl[x.b.toNat]? = some fl[x.b.toNat] := List.getElem?_eq_getElem hlt
    have hp := hfl _ (List.mem_of_getElem? hg)
    refine ⟨_, hg, ?_⟩
    unfold fixN
    dsimp only
    rw [hg, Option.getD_some]
    split
    · omega
    · rename_i hx
      have : ¬ (x.op = 14 ∧ 8 < x.c + fl[x.b.toNat]) := fun e => hx (Or.inr e)
      omega
/-- what the second loop keeps -/
structure NInv (w wq : World) (g t : Nat) (args : Int) (A : Option Addr) (N c : Nat) (L : List NI) : Prop where
  C : Blk wq (w.heap.size + 1) 90 #[.int .i64 args, .slice A N c]
  own : wq.ownsRow (w.heap.size + 2) 95 5 (.slice A N c) N (L.flatMap insCells)
  T : TapeAt wq g t
  G : w.grownBy wq (some g)
  R : Blk wq w.heap.size 90 #[.int .i64 0, .slice none 0 0]
  sz : w.heap.size + 2 ≤ wq.heap.size
section
variable {w wq : World} {g t N c : Nat} {args : Int} {A : Option Addr} {L : List NI}
theorem NInv.drewN (h : NInv w wq g t args A N c L) (k : Nat) : NInv w (wq.drewN k) g t args A N c L :=
  ⟨h.C.drewN k, own_keep h.own (below_drewN (Below.refl _ _) k), h.T.below (below_drewN (Below.refl _ _) k), only_belowB h.G (below_drewN (Below.refl w.heap.size _) k) (Nat.le_refl _), h.R.drewN k, h.sz⟩
theorem NInv.drew (h : NInv w wq g t args A N c L) : NInv w wq.drew g t args A N c L :=
  ⟨h.C.drew, own_keep h.own (Below.refl _ _).drew, h.T.drew, only_belowB h.G (Below.refl w.heap.size _).drew (Nat.le_refl _), h.R.drew, h.sz⟩
theorem NInv.set {gb : Nat} (h : NInv w wq g t args (some ⟨gb, 0, none⟩) N c L) (hb : w.heap.size + 2 ≤ gb) (hg : g < w.heap.size) {k j : Nat} {x y : NI} {u : Value} (hx : L[k]? = some x) (hj : j < 5) (hy : insCells y = (insCells x).set j u) :
    NInv w (wq.setCell ⟨gb, k * 5 + j, none⟩ u) g t args (some ⟨gb, 0, none⟩) N c (L.set k y) :=
  ⟨h.C.far (by show w.heap.size + 1 ≠ gb; omega) u, by rw [← set_flat5 insCells 5 insCells_len L k j u x y hx hj hy]; exact (h.own.stored (k * 5 + j) u).1, h.T.set (by show g < gb; omega) u,
    only_belowB h.G ((Below.refl w.heap.size _).setCell (by show w.heap.size ≤ gb; omega) u) (Nat.le_refl _), h.R.far (by show w.heap.size ≠ gb; omega) u, by have := h.sz; simpa using this⟩
end
def RetNative (w : World) (g t : Nat) (args : Int) (fl : List Int) (e : Ending) (w' : World) : Prop :=
  ∃ (l : List NI) (A : Option Addr) (c t' : Nat), e = .returned (codeV args A l.length c) ∧ Reads w' w'.heap.size 5 A l.length c (l.flatMap insCells) ∧ (∀ b off, 0 < l.length → A = some ⟨b, off, none⟩ → w.heap.size ≤ b) ∧ l.length ≤ 57 ∧ (∀ x ∈ l, Fit l.length fl x) ∧ t' ≤ t + 100 ∧ TapeAt w' g t' ∧ w.grownBy w' (some g)

theorem quiet_a {P : Program} {f : FuncId} {args : Array Value} {w : World} {n : Nat} {v : Value}
    (h : Calls P f args (w.drewN n) fun e w' => e = .returned v ∧ w.drewN n = w') : Calls P f args (w.drewN n) fun e w'' => e = .returned v ∧ ∃ m, w'' = w.drewN m :=
  h.mono fun _ _ ⟨he, hm⟩ => ⟨he, n, hm.symm⟩
theorem rargs_val (op ar : Int) (w : World) (h : argsN op = ar) : Calls Tryd.prog 59 #[.int .i64 op] w fun e w' => e = .returned (.int .i64 ar) ∧ w = w' := by
  rw [← h]; exact rargs_any op w
set_option linter.unusedSimpArgs false in
set_option maxRecDepth 100000 in
set_option maxHeartbeats 4000000 in
theorem native_any (g t nf : Nat) (args : Int) (F : Option Addr) (cf : Nat) (fl : List Int) (w : World) (hT : TapeAt w g t) (ht : t ≤ 800000) (hF : Reads w w.heap.size 1 F nf cf (fl.flatMap intCells)) (hFg : ∀ b off, F = some ⟨b, off, none⟩ → b ≠ g) (hnf : 0 < nf) (hnf2 : nf ≤ 16) (hfl : ∀ p ∈ fl, 0 ≤ p ∧ p ≤ 3) :
    Calls Tryd.prog 41 #[.pointer (some ⟨g, 0, none⟩), .int .i64 args, .slice F nf cf] w (RetNative w g t args fl) := by
  have hgw := hT.lt
  have W0 : Below w.heap.size w ((w.alloc (.cells #[.int .i64 0, .slice none 0 0] 90)).alloc (.cells #[.int .i64 args, .slice none 0 0] 90)) := keep_alloc (code_alloc w _ 0 none 0 0) _
  have R0' := (Blk.new w #[.int .i64 0, .slice none 0 0] 90).alloc (.cells #[.int .i64 args, .slice none 0 0] 90)
  have C0' := Blk.newAt (w.alloc (.cells #[.int .i64 0, .slice none 0 0] 90)) #[.int .i64 args, .slice none 0 0] 90 (w.heap.size + 1) (by simp)
  go_enter Tryd.func41, Tryd.ntmps41
  go_wp2_with fail
  obtain ⟨w1, hw1⟩ : ∃ w1, ((w.alloc (.cells #[.int .i64 0, .slice none 0 0] 90)).alloc (.cells #[.int .i64 args, .slice none 0 0] 90)) = w1 := ⟨_, rfl⟩
  have hs1 : w1.heap.size = w.heap.size + 2 := by rw [← hw1]; simp
  rw [hw1] at W0 R0' C0' ⊢
  clear hw1
  have HS1 := Lib.hid hs1
  clear hs1
  have hT1 := hT.below W0
  have hG1 := only_refl_below g W0
  refine (next_any g _ 7 _ hT1 (by omega) (by omega)).mono ?_
  rintro e w2 ⟨m0, rfl, hm0, hm1, t2, ht2, hT2, hG2⟩
  have hG2' := hG1.trans hG2
  have R2 := R0'.only hG2 (by omega)
  have C2 := C0'.only hG2 (by omega)
  have hs2 := hG2.size
  rw [HS1.out] at hs2
  obtain ⟨mm, rfl⟩ := Int.eq_ofNat_of_zero_le hm0
  have hm2 : mm ≤ 6 := by omega
  clear hm0 hm1 hT1 hG1 hG2 R0' C0' W0
  go_wp2_with fail
  go_loopw [8] (fun x wq => ∃ (m : Nat) (l : List NI) (A : Option Addr) (c t' : Nat), m ≤ 7 ∧ x = .int .i64 m ∧ l.length + 8 * m ≤ 56 ∧ (∀ x ∈ l, R0 nf x) ∧ Blk wq (w.heap.size + 1) 90 #[.int .i64 args, .slice A l.length c] ∧
    wq.ownsRow (w.heap.size + 2) 95 5 (.slice A l.length c) l.length (l.flatMap insCells) ∧ TapeAt wq g t' ∧ t' + 10 * m ≤ t + 1 + 70 ∧ w.grownBy wq (some g) ∧ Blk wq w.heap.size 90 #[.int .i64 0, .slice none 0 0] ∧ w.heap.size + 2 ≤ wq.heap.size) (fun x _ => (intOf x).toNat)
  case atStart => exact ⟨1 + mm, [], none, 0, t2, by omega, by first | go_num | (congr 1; omega), by simp <;> omega, by simp, C2, World.ownsRow_nil _ _ _ _, hT2, by omega, hG2', R2, hs2⟩
  case round =>
    obtain ⟨m, l, A, c, t', hm, rfl, hl, hR, C, hown, hT, htt, hG, R, hsz⟩ := hrel
    by_cases hlt : 0 < m
    · have hd : decide ((0 : Int) < (m : Int)) = true := by simp; omega
      have o1 : wr.cell? ⟨w.heap.size + 1, 1, none⟩ = some (.slice A l.length c) := C.cell 1 _ rfl
      have hF1 := (hF.only hG (Nat.le_refl _) hFg).more (B' := wr.heap.size) (by omega)
      have q1 : ∀ m', m' ≤ 8 → l.length + m' ≤ maxLen := fun m' h => by unfold maxLen; omega
      have q2 : ∀ m', m' ≤ 8 → (l.length + m') * 40 ≤ 140737488355328 := fun m' h => by omega
      have HR := Lib.hid hR
      have Q1 := Lib.hid q1
      have Q2 := Lib.hid q2
      clear hR q1 q2
      go_wp2_with fail
      go_region_law (first
        | (go_simp; go_at_call 58; refine (idiom_any g t' nf F cf fl l.length _ hT.drew (by omega) hF1.drew hFg hnf hnf2 hfl (by omega)).mono ?_; rintro e w5 ⟨l5, A5, c5, t5, rfl, hr5, hl5, hR5, ht5, hT5, hG5, hA5⟩; have own5 := own_only hown.drew hG5 (by omega); have C5 := C.drew.only hG5 (by omega); have o5 : w5.cell? ⟨w.heap.size + 1, 1, none⟩ = some (.slice A l.length c) := C5.cell 1 _ rfl; have hs5 := hG5.size)
        | (refine step_app rfl _ _ _ (by rfl) tyRIns (by rfl) own5 (by rfl) hr5 (insCells_one _) (Q1.out _ hl5) (Q2.out _ hl5) (by simp at hs5; omega) ?_; intro v' w6 hown6 hb6; obtain ⟨A6, c6, rfl, -⟩ := Reads.own hown6; have C6 := C5.belowB hb6 (by omega); have o6 : w6.cell? ⟨w.heap.size + 1, 1, none⟩ = some (.slice A l.length c) := C6.cell 1 _ rfl; have fo6 := C6.free))
      all_goals
        go_wp2_with fail
        go_roundw
        case rel =>
          refine ⟨m - 1, l ++ l5, A6, c6, t5, by omega, by congr 1; omega, by rw [List.length_append]; omega, fun x hx => ?_, ?_, ?_, (hT5.belowB hb6 (by omega)).set (by show g < w.heap.size + 1; omega) _, by omega, ?_, ?_, ?_⟩
          · rcases List.mem_append.1 hx with h | h
            · exact HR.out x h
            · exact hR5 x h
          · rw [List.length_append]; exact C6.set 1 (.slice A6 (l.length + l5.length) c6)
          · rw [List.length_append, List.flatMap_append]; exact ownsRow_setCell_below hown6 (by show w.heap.size + 1 < _; omega) _
          · exact only_belowB ((only_belowB hG (Below.refl w.heap.size wr).drew (Nat.le_refl _)).trans hG5) ((hb6.mono (show w.heap.size ≤ w.heap.size + 2 by omega)).setCell (by show w.heap.size ≤ w.heap.size + 1; omega) _) (Nat.le_refl _)
          · exact ((R.drew.only hG5 (by omega)).belowB hb6 (by omega)).far (by show w.heap.size ≠ w.heap.size + 1; omega) _
          · have := hb6.size; simp at hs5 ⊢; omega
        case measure => simp [intOf]; omega
    · have hd : decide ((0 : Int) < (m : Int)) = false := by simp; omega
      have hR1 := Lib.hid hR
      have hN : l.length ≤ 56 := by omega
      have htt2 : t' ≤ t + 71 := by omega
      clear hR hl htt
      obtain ⟨N, hNe⟩ : ∃ N, l.length = N := ⟨_, rfl⟩
      rw [hNe] at C hown hN
      have HNE := Lib.hid hNe
      clear hNe
      go_wp2_with fail
      have hI : NInv w wr g t' args A N c l := ⟨C, hown, hT, hG, R, hsz⟩
      go_loopw [9] (fun x wq => ∃ k : Nat, k ≤ N ∧ x = .int .i64 k ∧ NInv w wq g t' args A N c ((l.take k).map (fixN N fl) ++ l.drop k)) (fun x _ => N - (intOf x).toNat)
      case atStart => exact ⟨0, Nat.zero_le _, rfl, by simpa using hI⟩
      case round =>
        clear C hown hT hG R hsz hI
        obtain ⟨k, hk, rfl, hI⟩ := hrel
        have C := hI.C
        have hown := hI.own
        have hsz := hI.sz
        have R := hI.R
        have hG := hI.G
        have o1 : wr.cell? ⟨w.heap.size + 1, 1, none⟩ = some (.slice A N c) := C.cell 1 _ rfl
        by_cases hlt : k < N
        · obtain ⟨x, hx⟩ : ∃ x, l[k]? = some x := ⟨_, List.getElem?_eq_getElem (by have := HNE.out; omega)⟩
          rcases hown.2 with ⟨-, hz⟩ | ⟨gb, cap, cu, hgb, hbg, -, -, -, -, -⟩
          · exfalso; omega
          simp only [Value.slice.injEq] at hgb
          obtain ⟨rfl, -, rfl⟩ := hgb
          have hPl : ((l.take k).map (fixN N fl)).length = k := by rw [List.length_map, List.length_take]; have := HNE.out; omega
          have hdr := drop_at hx
          have htk : (l.take (k + 1)).map (fixN N fl) = (l.take k).map (fixN N fl) ++ [fixN N fl x] := by rw [take_nx hx, List.map_append]; rfl
          rw [hdr] at hown hI
          have hmid := at_mid5 _ x (l.drop (k + 1)) k hPl
          have hcells : ∀ j u, (insCells x)[j]? = some u → j < 5 → wr.cell? ⟨gb, k * 5 + j, none⟩ = some u := fun j u hu hj =>
            (hown.cellAt (k * 5 + j) (by omega)).trans (by rw [flat_at insCells 5 insCells_len _ k j hj x hmid, hu])
          have d0 := hcells 0 _ rfl (by omega)
          have d2 := hcells 2 _ rfl (by omega)
          have d3 := hcells 3 _ rfl (by omega)
          have d4 := hcells 4 _ rfl (by omega)
          rw [Nat.add_zero] at d0
          have f3 := hown.frozenAt (k * 5 + 3)
          have f4 := hown.frozenAt (k * 5 + 4)
          have hk0 : (0 : Int) ≤ (k : Int) := by omega
          have hk1 : (k : Int) < (N : Int) := by omega
          have hxR := hR1.out x (List.mem_of_getElem? hx)
          have HK := Lib.hid htk
          have HP := Lib.hid hPl
          have HM := Lib.hid hmid
          have wN : IntKind.u64.wrap (N : Int) = (N : Int) := IntWalk.u64_in _ (by omega)
          obtain ⟨op, a, b, cc, kk⟩ := x
          dsimp only at d0 d2 d3 d4
          obtain ⟨hform, h14, h13, -⟩ := hxR
          obtain ⟨⟨ho0, ho1⟩, -, ⟨hb0, hb1⟩, hc0, hc1⟩ := (formedI_iff _).1 hform
          dsimp only at ho0 ho1 hb0 hb1 hc0 hc1 h14 h13
          clear hcells hx hdr htk hPl hmid hform
          have hnext : ((l.take k).map (fixN N fl) ++ ⟨op, a, b, cc, kk⟩ :: l.drop (k + 1)).set k (fixN N fl ⟨op, a, b, cc, kk⟩) = (l.take (k + 1)).map (fixN N fl) ++ l.drop (k + 1) := by
            rw [HK.out, set_mid5 _ _ _ _ k HP.out]
          have HNX := Lib.hid hnext
          have hsame : fixN N fl ⟨op, a, b, cc, kk⟩ = ⟨op, a, b, cc, kk⟩ → NInv w wr g t' args (some ⟨gb, 0, none⟩) N c ((l.take (k + 1)).map (fixN N fl) ++ l.drop (k + 1)) := fun he => by
            rw [HK.out, he, List.append_assoc]; exact hI
          have HSM := Lib.hid hsame
          clear hnext hsame
          by_cases hj : op = 9 ∨ op = 10
          · rcases hj with rfl | rfl
            · by_cases hmin : (N : Int) < U kk
              · have hy : fixN N fl ⟨9, a, b, cc, kk⟩ = ⟨9, a, b, cc, BitVec.ofNat 64 N⟩ := fixN_gt (Or.inl rfl) hmin
                have uN := U_ofNat N (by omega)
                have hI2 := hI.set hbg hgw (j := 4) (u := .int .u64 (N : Int)) HM.out (by omega) (y := ⟨9, a, b, cc, BitVec.ofNat 64 N⟩) (by simp [insCells, uN])
                have HI2 := Lib.hid (show NInv w _ g t' args (some ⟨gb, 0, none⟩) N c ((l.take (k + 1)).map (fixN N fl) ++ l.drop (k + 1)) by rw [← HNX.out, hy]; exact hI2)
                clear hI2 hI hy uN
                go_wp2_with fail
                go_region_law (fail)
                all_goals
                  go_wp2_with fail
                  go_quiet (fail)
                  go_wp2_with fail
                  go_roundw
                  case rel => exact ⟨k + 1, by omega, by go_num, HI2.out.drewN _⟩
                  case measure => simp [intOf]; omega
              · have hy : fixN N fl ⟨9, a, b, cc, kk⟩ = ⟨9, a, b, cc, kk⟩ := fixN_le (Or.inl rfl) hmin
                have hI2 := hI.set hbg hgw (j := 4) (u := .int .u64 (U kk)) HM.out (by omega) (y := ⟨9, a, b, cc, kk⟩) (by simp [insCells])
                have HI2 := Lib.hid (show NInv w _ g t' args (some ⟨gb, 0, none⟩) N c ((l.take (k + 1)).map (fixN N fl) ++ l.drop (k + 1)) by rw [← HNX.out, hy]; exact hI2)
                clear hI2 hI hy
                go_wp2_with fail
                go_region_law (fail)
                all_goals
                  go_wp2_with fail
                  go_quiet (fail)
                  go_wp2_with fail
                  go_roundw
                  case rel => exact ⟨k + 1, by omega, by go_num, HI2.out.drewN _⟩
                  case measure => simp [intOf]; omega
            · by_cases hmin : (N : Int) < U kk
              · have hy : fixN N fl ⟨10, a, b, cc, kk⟩ = ⟨10, a, b, cc, BitVec.ofNat 64 N⟩ := fixN_gt (Or.inr rfl) hmin
                have uN := U_ofNat N (by omega)
                have hI2 := hI.set hbg hgw (j := 4) (u := .int .u64 (N : Int)) HM.out (by omega) (y := ⟨10, a, b, cc, BitVec.ofNat 64 N⟩) (by simp [insCells, uN])
                have HI2 := Lib.hid (show NInv w _ g t' args (some ⟨gb, 0, none⟩) N c ((l.take (k + 1)).map (fixN N fl) ++ l.drop (k + 1)) by rw [← HNX.out, hy]; exact hI2)
                clear hI2 hI hy uN
                go_wp2_with fail
                go_region_law (fail)
                all_goals
                  go_wp2_with fail
                  go_quiet (fail)
                  go_wp2_with fail
                  go_roundw
                  case rel => exact ⟨k + 1, by omega, by go_num, HI2.out.drewN _⟩
                  case measure => simp [intOf]; omega
              · have hy : fixN N fl ⟨10, a, b, cc, kk⟩ = ⟨10, a, b, cc, kk⟩ := fixN_le (Or.inr rfl) hmin
                have hI2 := hI.set hbg hgw (j := 4) (u := .int .u64 (U kk)) HM.out (by omega) (y := ⟨10, a, b, cc, kk⟩) (by simp [insCells])
                have HI2 := Lib.hid (show NInv w _ g t' args (some ⟨gb, 0, none⟩) N c ((l.take (k + 1)).map (fixN N fl) ++ l.drop (k + 1)) by rw [← HNX.out, hy]; exact hI2)
                clear hI2 hI hy
                go_wp2_with fail
                go_region_law (fail)
                all_goals
                  go_wp2_with fail
                  go_quiet (fail)
                  go_wp2_with fail
                  go_roundw
                  case rel => exact ⟨k + 1, by omega, by go_num, HI2.out.drewN _⟩
                  case measure => simp [intOf]; omega
          · have e9 : (op == 9) = false := by simp; omega
            have e10 : (op == 10) = false := by simp; omega
            by_cases hj13 : op = 13
            · subst hj13
              have hb20 := h13 rfl
              obtain ⟨ar0, ar1⟩ := argsN_range b
              obtain ⟨ar, har⟩ : ∃ ar, argsN b = ar := ⟨_, rfl⟩
              rw [har] at ar0 ar1
              have HAR := Lib.hid har
              clear har
              by_cases h8 : 8 < cc + ar
              · have hy : fixN N fl ⟨13, a, b, cc, kk⟩ = ⟨13, a, b, 0, kk⟩ := fixN_13 (by rw [HAR.out]; exact h8)
                have hI3 : ∀ q, NInv w ((wr.drewN q).setCell ⟨gb, k * 5 + 3, none⟩ (.int .i64 0)) g t' args (some ⟨gb, 0, none⟩) N c ((l.take (k + 1)).map (fixN N fl) ++ l.drop (k + 1)) := fun q => by
                  rw [← HNX.out, hy]
                  exact (hI.drewN q).set hbg hgw (j := 3) (u := .int .i64 0) HM.out (by omega) (y := ⟨13, a, b, 0, kk⟩) (by simp [insCells])
                have HI3 := Lib.hid hI3
                have hd8 : decide ((8 : Int) < cc + ar) = true := decide_eq_true h8
                clear hI hy hI3
                go_wp2_with fail
                go_quiet ((go_at_call 59; exact quiet_a (rargs_val _ _ _ HAR.out)))
                go_wp2_with fail
                go_roundw
                case rel => exact ⟨k + 1, by omega, by go_num, HI3.out _⟩
                case measure => simp [intOf]; omega
              · have hy : fixN N fl ⟨13, a, b, cc, kk⟩ = ⟨13, a, b, cc, kk⟩ := fixN_13s (by rw [HAR.out]; exact h8)
                have HI3 := Lib.hid (HSM.out hy)
                have hd8 : decide ((8 : Int) < cc + ar) = false := decide_eq_false h8
                clear hI hy
                go_wp2_with fail
                go_quiet ((go_at_call 59; exact quiet_a (rargs_val _ _ _ HAR.out)))
                go_wp2_with fail
                go_roundw
                case rel => exact ⟨k + 1, by omega, by go_num, HI3.out.drewN _⟩
                case measure => simp [intOf]; omega
            · by_cases hj14 : op = 14
              · subst hj14
                have hb14 := h14 rfl
                obtain ⟨bi, rfl⟩ := Int.eq_ofNat_of_zero_le hb0
                have hF1 := hF.only hG (Nat.le_refl _) hFg
                obtain ⟨bf, off, p, rfl, hbf, hp, hc⟩ := hF1.elem (fun _ => rfl) (by omega) (k := bi) (show bi < nf by omega)
                have d5 := hc 0 _ rfl
                rw [Nat.mul_one, Nat.add_zero] at d5
                have hbn : (bi : Int) < (nf : Int) := by omega
                obtain ⟨hp0, hp1⟩ := hfl p (List.mem_of_getElem? hp)
                by_cases h8 : 8 < cc + p
                · have hy : fixN N fl ⟨14, a, bi, cc, kk⟩ = ⟨14, a, bi, 0, kk⟩ := fixN_14 hp h8
                  have hI3 : ∀ q, NInv w ((wr.drewN q).setCell ⟨gb, k * 5 + 3, none⟩ (.int .i64 0)) g t' args (some ⟨gb, 0, none⟩) N c ((l.take (k + 1)).map (fixN N fl) ++ l.drop (k + 1)) := fun q => by
                    rw [← HNX.out, hy]
                    exact (hI.drewN q).set hbg hgw (j := 3) (u := .int .i64 0) HM.out (by omega) (y := ⟨14, a, bi, 0, kk⟩) (by simp [insCells])
                  have HI3 := Lib.hid hI3
                  have hd8 : decide ((8 : Int) < cc + p) = true := decide_eq_true h8
                  clear hI hy hI3 hc hp
                  go_wp2_with fail
                  go_quiet (fail)
                  go_wp2_with fail
                  go_roundw
                  case rel => exact ⟨k + 1, by omega, by go_num, HI3.out _⟩
                  case measure => simp [intOf]; omega
                · have hy : fixN N fl ⟨14, a, bi, cc, kk⟩ = ⟨14, a, bi, cc, kk⟩ := fixN_14s hp h8
                  have HI3 := Lib.hid (HSM.out hy)
                  have hd8 : decide ((8 : Int) < cc + p) = false := decide_eq_false h8
                  clear hI hy hc hp
                  go_wp2_with fail
                  go_quiet (fail)
                  go_wp2_with fail
                  go_roundw
                  case rel => exact ⟨k + 1, by omega, by go_num, HI3.out.drewN _⟩
                  case measure => simp [intOf]; omega
              · have e13 : (op == 13) = false := by simp; omega
                have e14 : (op == 14) = false := by simp; omega
                have hy : fixN N fl ⟨op, a, b, cc, kk⟩ = ⟨op, a, b, cc, kk⟩ := fixN_else hj hj13 hj14
                have HI2 := Lib.hid (HSM.out hy)
                clear hI hy
                go_wp2_with fail
                go_quiet (fail)
                go_wp2_with fail
                go_roundw
                case rel => exact ⟨k + 1, by omega, by go_num, HI2.out.drewN _⟩
                case measure => simp [intOf]; omega
        · have hkN : k = N := by omega
          subst hkN
          rw [List.take_of_length_le (by rw [HNE.out]; omega), List.drop_eq_nil_of_le (by rw [HNE.out]; omega), List.append_nil] at hI hown
          have hflen := hF.length (fun _ => rfl) (by omega)
          have hfit : ∀ n', k ≤ n' → ∀ x ∈ l.map (fixN k fl), Fit n' fl x := fun n' hn x hx => by
            obtain ⟨y, hy, rfl⟩ := List.mem_map.1 hx
            exact fixN_fit hflen hfl (hR1.out y hy) hn (by omega)
          have hml : (l.map (fixN k fl)).length = k := by rw [List.length_map, HNE.out]
          obtain ⟨L, hL⟩ : ∃ L, l.map (fixN k fl) = L := ⟨_, rfl⟩
          rw [hL] at hI hown hfit hml
          have HFIT := Lib.hid hfit
          have HML := Lib.hid hml
          have hI1 := hI
          clear hfit hml hL hflen hI
          go_wp2_with fail
          refine (next_any g _ 4 _ hI1.T (by omega) (by omega)).mono ?_
          rintro e w7 ⟨r7, rfl, hr0, hr1, t7, ht7, hT7, hG7⟩
          have hr2 : r7 < 4 := by omega
          have own7 := own_only hown hG7 (by omega)
          have C7 := C.only hG7 (by omega)
          have R7 := R.only hG7 (by omega)
          have hG8 := hG.trans hG7
          have hs7 := hG7.size
          clear hr1
          by_cases h7 : 0 < r7
          · have hd7 : decide ((0 : Int) < r7) = true := decide_eq_true h7
            have o7 : w7.cell? ⟨w.heap.size + 1, 1, none⟩ = some (.slice A k c) := C7.cell 1 _ rfl
            have q1 : k + 1 ≤ maxLen := by unfold maxLen; omega
            have q2 : (k + 1) * 40 ≤ 140737488355328 := by omega
            go_wp2_with fail
            go_region_law (first
              | (go_simp; go_at_call 39; refine (next_any g t7 8 _ hT7.drew (by omega) (by omega)).mono ?_; rintro e w8 ⟨r8, rfl, hr80, hr81, t8, ht8, hT8, hG8a⟩; have own8 := own_only (own_keep own7 (Below.refl _ _).drew) hG8a (by omega); have C8 := C7.drew.only hG8a (by omega); have R8 := R7.drew.only hG8a (by omega); have o8 : w8.cell? ⟨w.heap.size + 1, 1, none⟩ = some (.slice A k c) := C8.cell 1 _ rfl; have hs8 := hG8a.size)
              | (go_simp; go_at_call 60; refine (nat_any _ _ _ _ _ _).mono ?_; rintro e w9 ⟨rfl, hb9⟩; have own9 := own_keep own8 hb9; have C9 := C8.below hb9; have R9 := R8.below hb9; have hT9 := hT8.below hb9; have o9 : w9.cell? ⟨w.heap.size + 1, 1, none⟩ = some (.slice A k c) := C9.cell 1 _ rfl; have hs9 := hb9.size; have C9a := C9.alloc (.cells #[.int .i64 17, .int .i64 r8, .int .i64 0, .int .i64 0, .int .u64 0] 95); have R9a := R9.alloc (.cells #[.int .i64 17, .int .i64 r8, .int .i64 0, .int .i64 0, .int .u64 0] 95); have o9a := C9a.cell 1 _ rfl)
              | (refine step_app rfl _ _ _ (by rfl) tyRIns (by rfl) (own9.alloc _) (by rfl) (Reads.fresh w9 _ _ 5 1 rfl (by decide)) (by simp [Value.oneCell']) q1 q2 (by simp at hs8 hs9 ⊢; omega) ?_; intro v' w10 hown10 hb10; obtain ⟨A10, c10, rfl, -⟩ := Reads.own hown10; have C10 := C9a.belowB hb10 (by omega); have R10 := R9a.belowB hb10 (by omega); have p0 : w10.cell? ⟨w.heap.size + 1, 0, none⟩ = some (.int .i64 args) := C10.cell 0 _ rfl; have p1 : w10.cell? ⟨w.heap.size + 1, 1, none⟩ = some (.slice A k c) := C10.cell 1 _ rfl; have r0 : w10.cell? ⟨w.heap.size, 0, none⟩ = some (.int .i64 0) := R10.cell 0 _ rfl; have r1 : w10.cell? ⟨w.heap.size, 1, none⟩ = some (.slice none 0 0) := R10.cell 1 _ rfl; have fc := C10.free; have fr := R10.free))
            all_goals
              have hcl : L.flatMap insCells ++ [.int .i64 17, .int .i64 r8, .int .i64 0, .int .i64 0, .int .u64 0] = (L ++ [(⟨17, r8, 0, 0, 0#64⟩ : NI)]).flatMap insCells := by rw [List.flatMap_append]; rfl
              have hll : (L ++ [(⟨17, r8, 0, 0, 0#64⟩ : NI)]).length = k + 1 := by rw [List.length_append, HML.out]; rfl
              have own11 := ownsRow_setCell_below (ownsRow_setCell_below (ownsRow_setCell_below hown10 (a := ⟨w.heap.size + 1, 1, none⟩) (by show w.heap.size + 1 < _; omega) (.slice A10 (k + 1) c10)) (a := ⟨w.heap.size, 0, none⟩) (by show w.heap.size < _; omega) (.int .i64 args)) (a := ⟨w.heap.size, 1, none⟩) (by show w.heap.size < _; omega) (.slice A10 (k + 1) c10)
              have HBK := Lib.hid own11.lt
              obtain ⟨A11, c11, e11, hr11⟩ := Reads.own own11
              injection e11 with x1 x2 x3
              subst x1 x3
              have HR11 := Lib.hid hr11
              have HLL := Lib.hid hll
              have HCL := Lib.hid hcl
              have hGf : w.grownBy (((w10.setCell ⟨w.heap.size + 1, 1, none⟩ (.slice A10 (k + 1) c10)).setCell ⟨w.heap.size, 0, none⟩ (.int .i64 args)).setCell ⟨w.heap.size, 1, none⟩ (.slice A10 (k + 1) c10)) (some g) :=
                only_belowB (only_belowB (only_below ((only_belowB hG8 (Below.refl w.heap.size w7).drew (Nat.le_refl _)).trans hG8a) hb9) ((keep_alloc (Below.refl _ _) (.cells #[.int .i64 17, .int .i64 r8, .int .i64 0, .int .i64 0, .int .u64 0] 95)).mono (show w.heap.size ≤ w9.heap.size by simp at hs8; omega)) (Nat.le_refl _))
                  ((((hb10.mono (show w.heap.size ≤ w.heap.size + 2 by omega)).setCell (p := ⟨w.heap.size + 1, 1, none⟩) (by show w.heap.size ≤ w.heap.size + 1; omega) _).setCell (p := ⟨w.heap.size, 0, none⟩) (Nat.le_refl _) _).setCell (p := ⟨w.heap.size, 1, none⟩) (Nat.le_refl _) _) (Nat.le_refl _)
              have hT10 := (hT9.below (keep_alloc (Below.refl _ _) (.cells #[.int .i64 17, .int .i64 r8, .int .i64 0, .int .i64 0, .int .u64 0] 95))).belowB hb10 (by omega)
              have hTf := ((hT10.set (p := ⟨w.heap.size + 1, 1, none⟩) (by show g < w.heap.size + 1; omega) (.slice A10 (k + 1) c10)).set (p := ⟨w.heap.size, 0, none⟩) (by show g < w.heap.size; omega) (.int .i64 args)).set (p := ⟨w.heap.size, 1, none⟩) (by show g < w.heap.size; omega) (.slice A10 (k + 1) c10)
              have hr82 : r8 < 8 := by omega
              clear own11 hr11 hll hcl hown10 hr81
              go_wp2_with fail
              refine bodyPost_ret (v := codeV args A10 (k + 1) c10) (by simp [results, Tryd.results41, go_sem, r0, r1]) rfl ?_
              refine ⟨L ++ [⟨17, r8, 0, 0, 0#64⟩], A10, c10, t8, by rw [HLL.out], by rw [HLL.out, ← HCL.out]; exact HR11.out, fun b off _ e => by have := (HBK.out b (by rw [e]; rfl)).1; omega, by rw [HLL.out]; omega, fun x hx => ?_, by omega, hTf, hGf⟩
              rw [HLL.out]
              rcases List.mem_append.1 hx with hx | hx
              · exact HFIT.out (k + 1) (by omega) x hx
              · simp only [List.mem_singleton] at hx
                subst hx
                exact ⟨(formedI_iff _).2 (by dsimp only; omega), fun h => by dsimp only at h; omega, fun h => by dsimp only at h; omega, fun h => by dsimp only at h; omega, fun h => by dsimp only at h; omega⟩
          · have hd7 : decide ((0 : Int) < r7) = false := decide_eq_false h7
            have c0 : w7.cell? ⟨w.heap.size + 1, 0, none⟩ = some (.int .i64 args) := C7.cell 0 _ rfl
            have c1 : w7.cell? ⟨w.heap.size + 1, 1, none⟩ = some (.slice A k c) := C7.cell 1 _ rfl
            have r0 : w7.cell? ⟨w.heap.size, 0, none⟩ = some (.int .i64 0) := R7.cell 0 _ rfl
            have r1 : w7.cell? ⟨w.heap.size, 1, none⟩ = some (.slice none 0 0) := R7.cell 1 _ rfl
            have fr := R7.free
            have own9 := ownsRow_setCell_below (ownsRow_setCell_below own7 (a := ⟨w.heap.size, 0, none⟩) (by show w.heap.size < _; omega) (.int .i64 args)) (a := ⟨w.heap.size, 1, none⟩) (by show w.heap.size < _; omega) (.slice A k c)
            have HBK := Lib.hid own9.lt
            obtain ⟨A9, c9, e9, hr9⟩ := Reads.own own9
            injection e9 with x1 x2 x3
            subst x1 x3
            have HR9 := Lib.hid hr9
            clear own9 hr9
            go_wp2_with fail
            refine bodyPost_ret (v := codeV args A k c) (by simp [results, Tryd.results41, go_sem, r0, r1]) rfl ?_
            refine ⟨L, A, c, t7, by rw [HML.out], by rw [HML.out]; exact HR9.out, fun b off _ e => by have := (HBK.out b (by rw [e]; rfl)).1; omega, by rw [HML.out]; omega, fun x hx => by rw [HML.out]; exact HFIT.out k (Nat.le_refl _) x hx, by omega, (hT7.set (by show g < w.heap.size; omega) _).set (by show g < w.heap.size; omega) _, ?_⟩
            exact only_belowB hG8 (((Below.refl w.heap.size _).setCell (by simp) _).setCell (by simp) _) (Nat.le_refl _)
end Go.Proofs.YtnnchinpmnpfiaaDoor

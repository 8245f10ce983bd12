/- Kinds, whatever the program, the function and the instruction. -/
import Derived.Test.YtnnchinpmnpfiaaDoorKC
import Derived.Test.YtnnchinpmnpfiaaDoorKA
import Derived.WalkSpells
import Derived.BigQuiet
import Derived.Deep.QuietTactic
namespace Go.Proofs.YtnnchinpmnpfiaaDoor
open Go.ChangeShapes Go.WideShapes Go.RowKit Words

/-- a managed function and a managed program, as data -/
structure Fn where
  p : Int
  locs : List Int
  r : Int
  ins : List NI
structure HD where
  k : Int
  len : Int
  m : Int
structure Prg where
  shs : List HD
  fns : List Fn
  nats : List Int
def hdCells (h : HD) : List Value := [.int .i64 h.k, .int .i64 h.len, .int .u32 h.m]
/-- the locals that an instruction uses, their kinds, and whether it can be -/
def kindsS (ns m : Nat) (fns : List Fn) (nats : List Int) (locs : List Int) (r : Int) (x : NI) : List Int × List Int × Bool :=
  if x.op = 2 then ([x.a, x.b], [kindL locs x.a, kindL locs x.a], true)
  else if x.op = 25 then ([x.a], [r], true)
  else if x.op = 21 then
    match fns[(U x.k).toNat]? with
    | some g => if fewB g.p then (locL x.a x.b g.p.toNat, kdL g.r (fun i => kindL g.locs (i : Int)) g.p.toNat, true) else ([], [], false)
    | none => ([], [], false)
  else if x.op = 22 then
    match nats[(U x.k).toNat]? with
    | some q => if fewB q then (locL x.a x.b q.toNat, kdL 1 (fun i => kindL locs (IntKind.i64.wrap (x.b + (i : Int)))) q.toNat, true) else ([], [], false)
    | none => ([], [], false)
  else if (x.op = 13 ∧ (ns : Int) ≤ U x.k) ∨ (x.op = 11 ∧ (m : Int) ≤ U x.k) ∨ (x.op = 12 ∧ (m : Int) ≤ U x.k) then ([], [], false)
  else match plainL x.op with
    | some l => ([x.a, x.b, x.c].take l.length, l, true)
    | none => ([], [], false)
/-- a function lies in memory -/
structure FnAt (w : World) (x : FC) (f : Fn) : Prop where
  p : x.p = f.p
  r : x.r = f.r
  locs : Reads w w.heap.size 1 x.A x.n x.c (f.locs.flatMap intCells)
  ins : Reads w w.heap.size 5 x.B x.m x.e (f.ins.flatMap insCells)
def FnsAt (w : World) (xs : List FC) (fs : List Fn) : Prop := xs.length = fs.length ∧ ∀ (i : Nat) x f, xs[i]? = some x → fs[i]? = some f → FnAt w x f
theorem FnAt.below {w w' : World} {x : FC} {f : Fn} (h : FnAt w x f) (hb : Below w.heap.size w w') : FnAt w' x f := ⟨h.p, h.r, h.locs.belowU hb, h.ins.belowU hb⟩
theorem FnsAt.below {w w' : World} {xs : List FC} {fs : List Fn} (h : FnsAt w xs fs) (hb : Below w.heap.size w w') : FnsAt w' xs fs := ⟨h.1, fun i x f h1 h2 => (h.2 i x f h1 h2).below hb⟩
/-- a program lies in memory -/
structure PrAt (w : World) (S : Option Addr) (ns cs : Nat) (F : Option Addr) (nf cf : Nat) (N : Option Addr) (nn cn : Nat) (P : Prg) (fcs : List FC) : Prop where
  shs : Reads w w.heap.size 3 S ns cs (P.shs.flatMap hdCells)
  fns : Reads w w.heap.size 4 F nf cf (fcs.flatMap fcCells)
  each : FnsAt w fcs P.fns
  nats : Reads w w.heap.size 1 N nn cn (P.nats.flatMap intCells)
theorem PrAt.below {w w' : World} {S : Option Addr} {ns cs : Nat} {F : Option Addr} {nf cf : Nat} {N : Option Addr} {nn cn : Nat} {P : Prg} {fcs : List FC} (h : PrAt w S ns cs F nf cf N nn cn P fcs) (hb : Below w.heap.size w w') : PrAt w' S ns cs F nf cf N nn cn P fcs :=
  ⟨h.shs.belowU hb, h.fns.belowU hb, h.each.below hb, h.nats.belowU hb⟩

theorem kinds_via {f : FuncId} (S : Option Addr) (ns cs : Nat) (F : Option Addr) (nf cf : Nat) (N : Option Addr) (nn cn : Nat) (v : Value) (x : NI) (w : World) (ls ks ls' ks' : List Int) (ok ok' : Bool) (h : (ls', ks', ok') = (ls, ks, ok)) (hc : Calls Tryd.prog f #[prV S ns cs F nf cf N nn cn, v, insV x] w (RetK w ls ks ok)) :
    Calls Tryd.prog f #[prV S ns cs F nf cf N nn cn, v, insV x] w (RetK w ls' ks' ok') := by
  simp only [Prod.mk.injEq] at h
  obtain ⟨rfl, rfl, rfl⟩ := h
  exact hc
theorem few_nat {q : Int} (h : fewB q = true) : ∃ n : Nat, q = n ∧ n ≤ 3 := by
  have := of_decide_eq_true h
  exact ⟨q.toNat, by omega, by omega⟩
set_option maxRecDepth 100000 in
set_option maxHeartbeats 2000000 in
theorem kcall_any (S : Option Addr) (ns cs : Nat) (F : Option Addr) (nf cf : Nat) (N : Option Addr) (nn cn : Nat) (p : Int) (A : Option Addr) (n c : Nat) (r : Int) (B : Option Addr) (m d : Nat) (op a b c' : Int) (k : BitVec 64) (ls ks : List Int) (ok : Bool) (w : World)
    (ho : op = 21 ∨ op = 22)
    (HC : ∀ wq, Below w.heap.size w wq → Calls Tryd.prog 35 #[prV S ns cs F nf cf N nn cn, fnV p A n c r B m d, insV ⟨op, a, b, c', k⟩] wq (RetK wq ls ks ok)) :
    Calls Tryd.prog 12 #[prV S ns cs F nf cf N nn cn, fnV p A n c r B m d, insV ⟨op, a, b, c', k⟩] w (RetK w ls ks ok) := by
  have hB0 : Below w.heap.size w (((w.alloc (.cells #[.slice S ns cs, .slice F nf cf, .slice N nn cn] 37)).alloc (.cells #[.int .i64 p, .slice A n c, .int .i64 r, .slice B m d] 49)).alloc (.cells #[.int .i64 op, .int .i64 a, .int .i64 b, .int .i64 c', .int .u64 (U k)] 53)) := keep_alloc (keep_alloc (keep_alloc (Below.refl _ _) _) _) _
  have H := Lib.hid (HC _ hB0)
  have hf : ((op == 2) = false ∧ (op == 25) = false ∧ (op == 21) = true) ∨ ((op == 2) = false ∧ (op == 25) = false ∧ (op == 21) = false ∧ (op == 22) = true) := by
    rcases ho with rfl | rfl
    · exact Or.inl ⟨rfl, rfl, rfl⟩
    · exact Or.inr ⟨rfl, rfl, rfl, rfl⟩
  obtain ⟨n1, hn1⟩ : ∃ n1, ls.length = n1 := ⟨_, rfl⟩
  obtain ⟨n2, hn2⟩ : ∃ n2, ks.length = n2 := ⟨_, rfl⟩
  have HN1 := Lib.hid hn1
  have HN2 := Lib.hid hn2
  clear HC ho
  rcases hf with ⟨e2, e25, e21⟩ | ⟨e2, e25, e21, e22⟩
  all_goals
    clear hn1 hn2
    go_enter Tryd.func12, Tryd.ntmps12
    go_wp2_with fail
    refine H.out.mono ?_
    rintro e w2 ⟨A1, c1, B1, d1, rfl, r1, r2, hb2⟩
    have l1 := HN1.out
    have l2 := HN2.out
    rw [l1] at r1 ⊢
    rw [l2] at r2 ⊢
    clear l1 l2 H
    go_wp2_with fail
    refine bodyPost_ret (v := .tuple #[.slice A1 n1 c1, .slice B1 n2 d1, .bool ok]) (by simp [results, Tryd.results12]) rfl ?_
    exact ⟨A1, c1, B1, d1, by rw [HN1.out, HN2.out], by rw [HN1.out]; exact r1, by rw [HN2.out]; exact r2, keep_below hb2 hB0⟩
set_option maxRecDepth 100000 in
set_option maxHeartbeats 2000000 in
/-- the program's Kinds -/
theorem kinds_any (S : Option Addr) (ns cs : Nat) (F : Option Addr) (nf cf : Nat) (N : Option Addr) (nn cn : Nat) (P : Prg) (fcs : List FC) (p : Int) (A : Option Addr) (n c : Nat) (r : Int) (B : Option Addr) (m d : Nat) (locs : List Int) (x : NI) (w : World)
    (hP : Plain w) (hR : PrAt w S ns cs F nf cf N nn cn P fcs) (hA : Reads w w.heap.size 1 A n c (locs.flatMap intCells)) (hx : x.ok64) (hns : ns ≤ 1000000) (hnf : nf ≤ 1000000) (hnn : nn ≤ 1000000) (hm : m ≤ 1000000) :
    Calls Tryd.prog 12 #[prV S ns cs F nf cf N nn cn, fnV p A n c r B m d, insV x] w (RetK w (kindsS ns m P.fns P.nats locs r x).1 (kindsS ns m P.fns P.nats locs r x).2.1 (kindsS ns m P.fns P.nats locs r x).2.2) := by
  obtain ⟨op, a, b, c', k⟩ := x
  obtain ⟨ho, ha, hb, hc⟩ := hx
  simp only at ho ha hb hc
  obtain ⟨kn, hkn⟩ : ∃ kn : Nat, U k = kn := ⟨(U k).toNat, by have := U_nonneg k; omega⟩
  have hlf := hR.fns.length fcCells_len (by omega)
  have hln := hR.nats.length (f := intCells) (fun _ => rfl) (by omega)
  by_cases h2 : op = 2
  · subst h2
    exact kinds_via _ _ _ _ _ _ _ _ _ _ _ _ [a, b] [kindL locs a, kindL locs a] _ _ true _ (by rfl) (kinds_move S ns cs F nf cf N nn cn p A n c r B m d locs a b c' k w hA)
  by_cases h25 : op = 25
  · subst h25
    exact kinds_via _ _ _ _ _ _ _ _ _ _ _ _ [a] [r] _ _ true _ (by rfl) (kinds_ret S ns cs F nf cf N nn cn p A n c r B m d a b c' k w)
  by_cases h21 : op = 21
  · subst h21
    by_cases hk : kn < nf
    · obtain ⟨bf, off, fc, hF, -, hfc, hcl⟩ := hR.fns.elem fcCells_len (by omega) hk
      have hkl : kn < P.fns.length := by have := hR.each.1; omega
      obtain ⟨g, hg⟩ : ∃ g, P.fns[kn]? = some g := ⟨_, List.getElem?_eq_getElem hkl⟩
      have hat := hR.each.2 kn fc g hfc hg
      have c0 := hcl 0 _ rfl
      have c1 := hcl 1 _ rfl
      have c2 := hcl 2 _ rfl
      have c3 := hcl 3 _ rfl
      rw [Nat.add_zero] at c0
      have hcal : ∀ wq, Below w.heap.size w wq → Calls Tryd.prog 54 #[prV S ns cs F nf cf N nn cn, insV ⟨21, a, b, c', k⟩] wq (RetC wq g.p (some ⟨bf, off + kn * 4, none⟩) (fewB g.p)) := fun wq hq => by
        have := callee_fn S ns cs F nf cf N nn cn a b c' k bf off g.p wq hF hnf (by omega) (by rw [hkn, Int.toNat_natCast, ← hat.p]; exact keep_cell hq c0)
        rw [hkn, Int.toNat_natCast] at this
        exact this
      cases hfew : fewB g.p with
      | true =>
        obtain ⟨q, hq, hq3⟩ := few_nat hfew
        refine kinds_via _ _ _ _ _ _ _ _ _ _ _ _ (locL a b q) (kdL g.r (fun (i : Nat) => kindL g.locs (i : Int)) q) _ _ true _ (by
          show kindsS ns m P.fns P.nats locs r ⟨21, a, b, c', k⟩ = _
          unfold kindsS
          rw [if_neg (show ¬ _ from by simp), if_neg (show ¬ _ from by simp), if_pos rfl]
          dsimp only
          rw [hkn, Int.toNat_natCast, hg]
          dsimp only
          rw [hfew, if_pos rfl, hq]
          rfl) (kcall_any S ns cs F nf cf N nn cn p A n c r B m d 21 a b c' k _ _ _ w (Or.inl rfl) fun wq hwq => ?_)
        refine called_fn S ns cs F nf cf N nn cn p A n c r B m d locs 21 a b c' k q bf (off + kn * 4) fc.p fc.A fc.n fc.c g.r fc.B fc.m fc.e g.locs wq (hA.belowU hwq) (keep_cell hwq c0) (keep_cell hwq c1) (by rw [← hat.r]; exact keep_cell hwq c2) (keep_cell hwq c3) (hat.locs.belowU hwq) hq3 hb fun wz hz => ?_
        have := hcal wz (keep_below hz hwq)
        rw [hfew, hq] at this
        exact this
      | false =>
        refine kinds_via _ _ _ _ _ _ _ _ _ _ _ _ [] [] _ _ false _ (by
          show kindsS ns m P.fns P.nats locs r ⟨21, a, b, c', k⟩ = _
          unfold kindsS
          rw [if_neg (show ¬ _ from by simp), if_neg (show ¬ _ from by simp), if_pos rfl]
          dsimp only
          rw [hkn, Int.toNat_natCast, hg]
          dsimp only
          rw [hfew]
          rfl) (kcall_any S ns cs F nf cf N nn cn p A n c r B m d 21 a b c' k _ _ _ w (Or.inl rfl) fun wq hwq => ?_)
        refine called_no S ns cs F nf cf N nn cn p A n c r B m d 21 a b c' k g.p (some ⟨bf, off + kn * 4, none⟩) wq fun wz hz => ?_
        have := hcal wz (keep_below hz hwq)
        rw [hfew] at this
        exact this
    · have hg : P.fns[kn]? = none := List.getElem?_eq_none (by have := hR.each.1; omega)
      refine kinds_via _ _ _ _ _ _ _ _ _ _ _ _ [] [] _ _ false _ (by
          show kindsS ns m P.fns P.nats locs r ⟨21, a, b, c', k⟩ = _
          unfold kindsS
          rw [if_neg (show ¬ _ from by simp), if_neg (show ¬ _ from by simp), if_pos rfl]
          dsimp only
          rw [hkn, Int.toNat_natCast, hg]) (kcall_any S ns cs F nf cf N nn cn p A n c r B m d 21 a b c' k _ _ _ w (Or.inl rfl) fun wq hwq => ?_)
      exact called_no S ns cs F nf cf N nn cn p A n c r B m d 21 a b c' k 0 none wq fun wz hz => callee_no S ns cs F nf cf N nn cn 21 a b c' k wz hnf hnn (Or.inl ⟨rfl, by omega⟩)
  by_cases h22 : op = 22
  · subst h22
    by_cases hk : kn < nn
    · obtain ⟨bf, off, g, hN, -, hg, hcl⟩ := hR.nats.elem (f := intCells) (fun _ => rfl) (by omega) hk
      have c0 := hcl 0 _ rfl
      rw [Nat.mul_one, Nat.add_zero] at c0
      have hcal : ∀ wq, Below w.heap.size w wq → Calls Tryd.prog 54 #[prV S ns cs F nf cf N nn cn, insV ⟨22, a, b, c', k⟩] wq (RetC wq g none (fewB g)) := fun wq hq => by
        have := callee_nat S ns cs F nf cf N nn cn a b c' k bf off g wq hN hnn (by omega) (by rw [hkn, Int.toNat_natCast]; exact keep_cell hq c0)
        exact this
      cases hfew : fewB g with
      | true =>
        obtain ⟨q, hq, hq3⟩ := few_nat hfew
        refine kinds_via _ _ _ _ _ _ _ _ _ _ _ _ (locL a b q) (kdL 1 (fun (i : Nat) => kindL locs (IntKind.i64.wrap (b + (i : Int)))) q) _ _ true _ (by
          show kindsS ns m P.fns P.nats locs r ⟨22, a, b, c', k⟩ = _
          unfold kindsS
          rw [if_neg (show ¬ _ from by simp), if_neg (show ¬ _ from by simp), if_neg (show ¬ _ from by simp), if_pos rfl]
          dsimp only
          rw [hkn, Int.toNat_natCast, hg]
          dsimp only
          rw [hfew, if_pos rfl, hq]
          rfl) (kcall_any S ns cs F nf cf N nn cn p A n c r B m d 22 a b c' k _ _ _ w (Or.inr rfl) fun wq hwq => ?_)
        refine called_nat S ns cs F nf cf N nn cn p A n c r B m d locs 22 a b c' k q wq (hA.belowU hwq) hq3 hb fun wz hz => ?_
        have := hcal wz (keep_below hz hwq)
        rw [hfew, hq] at this
        exact this
      | false =>
        refine kinds_via _ _ _ _ _ _ _ _ _ _ _ _ [] [] _ _ false _ (by
          show kindsS ns m P.fns P.nats locs r ⟨22, a, b, c', k⟩ = _
          unfold kindsS
          rw [if_neg (show ¬ _ from by simp), if_neg (show ¬ _ from by simp), if_neg (show ¬ _ from by simp), if_pos rfl]
          dsimp only
          rw [hkn, Int.toNat_natCast, hg]
          dsimp only
          rw [hfew]
          rfl) (kcall_any S ns cs F nf cf N nn cn p A n c r B m d 22 a b c' k _ _ _ w (Or.inr rfl) fun wq hwq => ?_)
        refine called_no S ns cs F nf cf N nn cn p A n c r B m d 22 a b c' k g none wq fun wz hz => ?_
        have := hcal wz (keep_below hz hwq)
        rw [hfew] at this
        exact this
    · have hg : P.nats[kn]? = none := List.getElem?_eq_none (by omega)
      refine kinds_via _ _ _ _ _ _ _ _ _ _ _ _ [] [] _ _ false _ (by
          show kindsS ns m P.fns P.nats locs r ⟨22, a, b, c', k⟩ = _
          unfold kindsS
          rw [if_neg (show ¬ _ from by simp), if_neg (show ¬ _ from by simp), if_neg (show ¬ _ from by simp), if_pos rfl]
          dsimp only
          rw [hkn, Int.toNat_natCast, hg]) (kcall_any S ns cs F nf cf N nn cn p A n c r B m d 22 a b c' k _ _ _ w (Or.inr rfl) fun wq hwq => ?_)
      exact called_no S ns cs F nf cf N nn cn p A n c r B m d 22 a b c' k 0 none wq fun wz hz => callee_no S ns cs F nf cf N nn cn 22 a b c' k wz hnf hnn (Or.inr ⟨rfl, by omega⟩)
  by_cases hg : (op = 13 ∧ (ns : Int) ≤ U k) ∨ (op = 11 ∧ (m : Int) ≤ U k) ∨ (op = 12 ∧ (m : Int) ≤ U k)
  · refine kinds_via _ _ _ _ _ _ _ _ _ _ _ _ [] [] _ _ false _ (by
      show kindsS ns m P.fns P.nats locs r ⟨op, a, b, c', k⟩ = _
      simp only [kindsS]
      rw [if_neg h2, if_neg h25, if_neg h21, if_neg h22, if_pos hg]) (kinds_out S ns cs F nf cf N nn cn p A n c r B m d op a b c' k w hns hm hg)
  · cases hl : plainL op with
    | none =>
      have hno : op ≠ 13 ∧ op ≠ 11 ∧ op ≠ 12 := by
        refine ⟨?_, ?_, ?_⟩ <;> (rintro rfl; cases hl)
      refine kinds_via _ _ _ _ _ _ _ _ _ _ _ _ [] [] _ _ false _ (by
        show kindsS ns m P.fns P.nats locs r ⟨op, a, b, c', k⟩ = _
        simp only [kindsS]
        rw [if_neg h2, if_neg h25, if_neg h21, if_neg h22, if_neg hg, hl]) (kinds_none S ns cs F nf cf N nn cn p A n c r B m d op a b c' k w hP ho h2 h25 h21 h22 hno.1 hno.2.1 hno.2.2 hl)
    | some l =>
      refine kinds_via _ _ _ _ _ _ _ _ _ _ _ _ ([a, b, c'].take l.length) l _ _ true _ (by
        show kindsS ns m P.fns P.nats locs r ⟨op, a, b, c', k⟩ = _
        simp only [kindsS]
        rw [if_neg h2, if_neg h25, if_neg h21, if_neg h22, if_neg hg, hl]) (kinds_some S ns cs F nf cf N nn cn p A n c r B m d op a b c' k l w hP ho h2 h25 h21 h22 hns hm ?_ hl)
      by_cases h13 : op = 13
      · exact Or.inr (Or.inl ⟨h13, by have := hg; simp only [h13] at this; omega⟩)
      by_cases h11 : op = 11
      · exact Or.inr (Or.inr (Or.inl ⟨h11, by have := hg; simp only [h11] at this; omega⟩))
      by_cases h12 : op = 12
      · exact Or.inr (Or.inr (Or.inr ⟨h12, by have := hg; simp only [h12] at this; omega⟩))
      exact Or.inl ⟨h13, h11, h12⟩
end Go.Proofs.YtnnchinpmnpfiaaDoor
/- The contracts of header's Valid, and of its reference's: XHead without what packs. -/
namespace Go.Proofs.YtnnchinpmnpfiaaDoor
open Go.RowKit Words
theorem ret_b {x y : Bool} (h : x = y) : Ending.returned (.bool x) = .returned (.bool y) := by rw [h]

theorem quiet_l {P : Program} {f : FuncId} {args : Array Value} {w : World} {n : Nat} {v : Value}
    (h : Calls P f args (w.drewN n) fun e w' => e = .returned v ∧ w.drewN n = w') : Calls P f args (w.drewN n) fun e w'' => e = .returned v ∧ ∃ m, w'' = w.drewN m :=
  h.mono fun _ _ ⟨he, hm⟩ => ⟨he, n, hm.symm⟩

/-- which headers are valid -/
def validH (k len m : Int) : Bool := decide (0 ≤ k) && decide (k ≤ 3) && decide (0 ≤ len) && decide (len ≤ 255) && (if k = 1 then decide (len ≤ 32) && decide (m < 2 ^ len.toNat) else decide (m = 0))
abbrev headV (k len m : Int) : Value := .agg #[.int .i64 k, .int .i64 len, .int .u32 m]

theorem hvalid_any (k len m : Int) (w : World) (hm0 : 0 ≤ m) (hm1 : m ≤ 4294967295) :
    Calls Tryd.prog 24 #[headV k len m] w fun e w' => e = .returned (.bool (validH k len m)) ∧ Below w.heap.size w w' := by
  by_cases t0 : k < 0
  · go_enter Tryd.func24, Tryd.ntmps24
    go_wp2
    go_ret
    exact ⟨ret_b (by simp [validH]; omega), by go_grown⟩
  by_cases t1 : 3 < k
  · go_enter Tryd.func24, Tryd.ntmps24
    go_wp2
    go_ret
    exact ⟨ret_b (by simp [validH]; omega), by go_grown⟩
  by_cases t2 : len < 0
  · go_enter Tryd.func24, Tryd.ntmps24
    go_wp2
    go_ret
    exact ⟨ret_b (by simp [validH]; omega), by go_grown⟩
  by_cases t3 : 255 < len
  · go_enter Tryd.func24, Tryd.ntmps24
    go_wp2
    go_ret
    exact ⟨ret_b (by simp [validH]; omega), by go_grown⟩
  by_cases t4 : k = 1
  · subst t4
    by_cases t5 : len ≤ 32
    · have hu := U_ones len.toNat (by omega)
      have hp : (2 : Int) ^ len.toNat ≤ 2 ^ 32 := by exact_mod_cast Nat.pow_le_pow_right (by decide : 0 < 2) (by omega : len.toNat ≤ 32)
      have HU := Lib.hid hu
      have HP := Lib.hid hp
      clear hu hp
      go_enter Tryd.func24, Tryd.ntmps24
      go_wp2_with fail
      go_quiet ((go_at_call 43; exact quiet_l (ones_any _ _)))
      go_wp2
      go_ret
      refine ⟨ret_b ?_, below_drewN (by go_grown) _⟩
      have := HU.out
      have e : (m ≤ U (ones len.toNat)) ↔ m < 2 ^ len.toNat := by omega
      simp [validH, t5, e]
      omega
    · have t6 : decide (len ≤ 32) = false := by simpa using t5
      go_enter Tryd.func24, Tryd.ntmps24
      go_wp2_with fail
      go_quiet (fail)
      go_wp2
      go_ret
      exact ⟨ret_b (by simp [validH]; omega), below_drewN (by go_grown) _⟩
  · have t5 : (k == 1) = false := by simpa using t4
    go_enter Tryd.func24, Tryd.ntmps24
    go_wp2_with fail
    all_goals
      go_ret
      exact ⟨ret_b (by simp [validH, *]), by go_grown⟩

theorem rhvalid_any (k len m : Int) (w : World) (hm0 : 0 ≤ m) (hm1 : m ≤ 4294967295) :
    Calls Tryd.prog 31 #[headV k len m] w fun e w' => e = .returned (.bool (validH k len m)) ∧ Below w.heap.size w w' := by
  by_cases t0 : k < 0
  · go_enter Tryd.func31, Tryd.ntmps31
    go_wp2
    go_ret
    exact ⟨ret_b (by simp [validH]; omega), by go_grown⟩
  by_cases t1 : 3 < k
  · go_enter Tryd.func31, Tryd.ntmps31
    go_wp2
    go_ret
    exact ⟨ret_b (by simp [validH]; omega), by go_grown⟩
  by_cases t2 : len < 0
  · go_enter Tryd.func31, Tryd.ntmps31
    go_wp2
    go_ret
    exact ⟨ret_b (by simp [validH]; omega), by go_grown⟩
  by_cases t3 : 255 < len
  · go_enter Tryd.func31, Tryd.ntmps31
    go_wp2
    go_ret
    exact ⟨ret_b (by simp [validH]; omega), by go_grown⟩
  by_cases t4 : k = 1
  · subst t4
    by_cases t5 : len ≤ 32
    · go_enter Tryd.func31, Tryd.ntmps31
      go_wp2
      go_ret
      have hp : (2 : Int) ^ len.toNat ≤ 2 ^ 32 := by exact_mod_cast Nat.pow_le_pow_right (by decide : 0 < 2) (by omega : len.toNat ≤ 32)
      have hp0 : (0 : Int) < 2 ^ len.toNat := Int.pow_pos (by decide)
      have hw : IntKind.u64.wrap (2 ^ len.toNat) = 2 ^ len.toNat := IntWalk.u64_in _ ⟨by omega, by omega⟩
      exact ⟨ret_b (by rw [hw]; simp [validH, t5]; omega), by go_grown⟩
    · have t6 : decide (len ≤ 32) = false := by simpa using t5
      go_enter Tryd.func31, Tryd.ntmps31
      go_wp2
      go_ret
      exact ⟨ret_b (by simp [validH]; omega), by go_grown⟩
  · have t5 : (k != 1) = true := by simpa using t4
    go_enter Tryd.func31, Tryd.ntmps31
    go_wp2_with fail
    go_ret
    exact ⟨ret_b (by simp [validH, *]; rfl), by go_grown⟩

end Go.Proofs.YtnnchinpmnpfiaaDoor
/- Configurations: which are valid, the greatest small object, the pages of a large one. PRINTED BY A PROGRAM (mk_page1.py). -/
namespace Go.Proofs.YtnnchinpmnpfiaaDoor
open Go.RowKit Words

abbrev confV (pw pg : Int) : Value := .agg #[.int .i64 pw, .int .i64 pg]
def confB (pw pg : Int) : Bool := decide (16 ≤ pw) && (decide (pw ≤ 64) && (decide (pw.tmod 4 = 0) && (decide (8 ≤ pg) && decide (pg ≤ 64))))
theorem confB_iff (pw pg : Int) : confB pw pg = true ↔ 16 ≤ pw ∧ pw ≤ 64 ∧ pw % 4 = 0 ∧ 8 ≤ pg ∧ pg ≤ 64 := by
  simp only [confB, Bool.and_eq_true, decide_eq_true_eq]
  constructor
  · rintro ⟨h1, h2, h3, h4, h5⟩
    rw [Int.tmod_eq_emod_of_nonneg (by omega)] at h3
    exact ⟨h1, h2, h3, h4, h5⟩
  · rintro ⟨h1, h2, h3, h4, h5⟩
    rw [Int.tmod_eq_emod_of_nonneg (by omega)]
    exact ⟨h1, h2, h3, h4, h5⟩
theorem confB_small {pw pg : Int} (h : confB pw pg = true) : 16 ≤ pw ∧ pw ≤ 64 ∧ 8 ≤ pg ∧ pg ≤ 64 := by
  have := (confB_iff pw pg).1 h
  exact ⟨this.1, this.2.1, this.2.2.2⟩
def smallC (pw pg : Int) : Int := if confB pw pg = true then pw / 4 else 0
/-- pages of its own for an object of n words; 0: it is small; -1: there is no such object -/
def needC (pw pg n : Int) : Int := if confB pw pg = true then (if n < 1 ∨ 4 * pw < n then -1 else if n ≤ pw / 4 then 0 else (n + pw - 1) / pw) else -1
set_option linter.unusedSimpArgs false in
theorem conf_any (pw pg : Int) (w : World) : Calls Tryd.prog 61 #[confV pw pg] w fun e w' => e = .returned (.bool (confB pw pg)) ∧ Below w.heap.size w w' := by
  have hB : Below w.heap.size w (w.alloc (.cells #[.int .i64 pw, .int .i64 pg] 28)) := keep_alloc (Below.refl _ _) _
  by_cases h1 : 16 ≤ pw
  case neg =>
    have d1 : decide (16 ≤ pw) = false := decide_eq_false h1
    have HV := Lib.hid (show confB pw pg = false from by unfold confB; rw [decide_eq_false h1]; rfl)
    clear h1
    go_enter Tryd.func61, Tryd.ntmps61
    go_wp2_with fail
    go_ret
    exact ⟨by rw [HV.out]; rfl, hB⟩
  have d1 : decide (16 ≤ pw) = true := decide_eq_true h1
  by_cases h2 : pw ≤ 64
  case neg =>
    have d2 : decide (pw ≤ 64) = false := decide_eq_false h2
    have HV := Lib.hid (show confB pw pg = false from by unfold confB; rw [decide_eq_true h1, decide_eq_false h2]; rfl)
    clear h1 h2
    go_enter Tryd.func61, Tryd.ntmps61
    go_wp2_with fail
    go_ret
    exact ⟨by rw [HV.out]; rfl, hB⟩
  have d2 : decide (pw ≤ 64) = true := decide_eq_true h2
  by_cases h3 : pw.tmod 4 = 0
  case neg =>
    have d3 : (pw.tmod 4 == 0) = false := by simpa using h3
    have e3 : pw.tmod 4 = pw % 4 := Int.tmod_eq_emod_of_nonneg (by omega)
    have d3' : (pw % 4 == 0) = false := by rw [← e3]; exact d3
    have HV := Lib.hid (show confB pw pg = false from by unfold confB; rw [decide_eq_true h1, decide_eq_true h2, decide_eq_false h3]; rfl)
    clear h1 h2 h3
    go_enter Tryd.func61, Tryd.ntmps61
    go_wp2_with fail
    go_ret
    exact ⟨by rw [HV.out]; rfl, hB⟩
  have d3 : (pw.tmod 4 == 0) = true := by simpa using h3
  have e3 : pw.tmod 4 = pw % 4 := Int.tmod_eq_emod_of_nonneg (by omega)
  have d3' : (pw % 4 == 0) = true := by rw [← e3]; exact d3
  by_cases h4 : 8 ≤ pg
  case neg =>
    have d4 : decide (8 ≤ pg) = false := decide_eq_false h4
    have HV := Lib.hid (show confB pw pg = false from by unfold confB; rw [decide_eq_true h1, decide_eq_true h2, decide_eq_true h3, decide_eq_false h4]; rfl)
    clear h1 h2 h3 h4
    go_enter Tryd.func61, Tryd.ntmps61
    go_wp2_with fail
    go_ret
    exact ⟨by rw [HV.out]; rfl, hB⟩
  have d4 : decide (8 ≤ pg) = true := decide_eq_true h4
  by_cases h5 : pg ≤ 64
  case neg =>
    have d5 : decide (pg ≤ 64) = false := decide_eq_false h5
    have HV := Lib.hid (show confB pw pg = false from by unfold confB; rw [decide_eq_true h1, decide_eq_true h2, decide_eq_true h3, decide_eq_true h4, decide_eq_false h5]; rfl)
    clear h1 h2 h3 h4 h5
    go_enter Tryd.func61, Tryd.ntmps61
    go_wp2_with fail
    go_ret
    exact ⟨by rw [HV.out]; rfl, hB⟩
  have d5 : decide (pg ≤ 64) = true := decide_eq_true h5
  have HV := Lib.hid (show confB pw pg = true from by unfold confB; rw [decide_eq_true h1, decide_eq_true h2, decide_eq_true h3, decide_eq_true h4, decide_eq_true h5]; rfl)
  clear h1 h2 h3 h4 h5
  go_enter Tryd.func61, Tryd.ntmps61
  go_wp2_with fail
  go_ret
  exact ⟨by rw [HV.out]; rfl, hB⟩
set_option linter.unusedSimpArgs false in
theorem rconf_any (pw pg : Int) (w : World) : Calls Tryd.prog 65 #[confV pw pg] w fun e w' => e = .returned (.bool (confB pw pg)) ∧ Below w.heap.size w w' := by
  have hB : Below w.heap.size w (w.alloc (.cells #[.int .i64 pw, .int .i64 pg] 28)) := keep_alloc (Below.refl _ _) _
  by_cases h1 : 16 ≤ pw
  case neg =>
    have d1 : decide (16 ≤ pw) = false := decide_eq_false h1
    have HV := Lib.hid (show confB pw pg = false from by unfold confB; rw [decide_eq_false h1]; rfl)
    clear h1
    go_enter Tryd.func65, Tryd.ntmps65
    go_wp2_with fail
    go_ret
    exact ⟨by rw [HV.out]; rfl, hB⟩
  have d1 : decide (16 ≤ pw) = true := decide_eq_true h1
  by_cases h2 : pw ≤ 64
  case neg =>
    have d2 : decide (pw ≤ 64) = false := decide_eq_false h2
    have HV := Lib.hid (show confB pw pg = false from by unfold confB; rw [decide_eq_true h1, decide_eq_false h2]; rfl)
    clear h1 h2
    go_enter Tryd.func65, Tryd.ntmps65
    go_wp2_with fail
    go_ret
    exact ⟨by rw [HV.out]; rfl, hB⟩
  have d2 : decide (pw ≤ 64) = true := decide_eq_true h2
  by_cases h3 : pw.tmod 4 = 0
  case neg =>
    have d3 : (pw.tmod 4 == 0) = false := by simpa using h3
    have e3 : pw.tmod 4 = pw % 4 := Int.tmod_eq_emod_of_nonneg (by omega)
    have d3' : (pw % 4 == 0) = false := by rw [← e3]; exact d3
    have HV := Lib.hid (show confB pw pg = false from by unfold confB; rw [decide_eq_true h1, decide_eq_true h2, decide_eq_false h3]; rfl)
    clear h1 h2 h3
    go_enter Tryd.func65, Tryd.ntmps65
    go_wp2_with fail
    go_ret
    exact ⟨by rw [HV.out]; rfl, hB⟩
  have d3 : (pw.tmod 4 == 0) = true := by simpa using h3
  have e3 : pw.tmod 4 = pw % 4 := Int.tmod_eq_emod_of_nonneg (by omega)
  have d3' : (pw % 4 == 0) = true := by rw [← e3]; exact d3
  by_cases h4 : 8 ≤ pg
  case neg =>
    have d4 : decide (8 ≤ pg) = false := decide_eq_false h4
    have HV := Lib.hid (show confB pw pg = false from by unfold confB; rw [decide_eq_true h1, decide_eq_true h2, decide_eq_true h3, decide_eq_false h4]; rfl)
    clear h1 h2 h3 h4
    go_enter Tryd.func65, Tryd.ntmps65
    go_wp2_with fail
    go_ret
    exact ⟨by rw [HV.out]; rfl, hB⟩
  have d4 : decide (8 ≤ pg) = true := decide_eq_true h4
  by_cases h5 : pg ≤ 64
  case neg =>
    have d5 : decide (pg ≤ 64) = false := decide_eq_false h5
    have HV := Lib.hid (show confB pw pg = false from by unfold confB; rw [decide_eq_true h1, decide_eq_true h2, decide_eq_true h3, decide_eq_true h4, decide_eq_false h5]; rfl)
    clear h1 h2 h3 h4 h5
    go_enter Tryd.func65, Tryd.ntmps65
    go_wp2_with fail
    go_ret
    exact ⟨by rw [HV.out]; rfl, hB⟩
  have d5 : decide (pg ≤ 64) = true := decide_eq_true h5
  have HV := Lib.hid (show confB pw pg = true from by unfold confB; rw [decide_eq_true h1, decide_eq_true h2, decide_eq_true h3, decide_eq_true h4, decide_eq_true h5]; rfl)
  clear h1 h2 h3 h4 h5
  go_enter Tryd.func65, Tryd.ntmps65
  go_wp2_with fail
  go_ret
  exact ⟨by rw [HV.out]; rfl, hB⟩
set_option linter.unusedSimpArgs false in
theorem small_any (pw pg : Int) (w : World) : Calls Tryd.prog 62 #[confV pw pg] w fun e w' => e = .returned (.int .i64 (smallC pw pg)) ∧ Below w.heap.size w w' := by
  have hB : Below w.heap.size w (w.alloc (.cells #[.int .i64 pw, .int .i64 pg] 28)) := keep_alloc (Below.refl _ _) _
  have X := Blk.new w #[.int .i64 pw, .int .i64 pg] 28
  cases hv : confB pw pg with
  | false =>
    have HV := Lib.hid hv
    clear hv
    go_enter Tryd.func62, Tryd.ntmps62
    go_wp2_with fail
    refine (conf_any pw pg _).mono ?_
    rw [HV.out]
    rintro e w2 ⟨rfl, hb2⟩
    go_wp2_with fail
    go_ret
    exact ⟨by unfold smallC; rw [HV.out]; rfl, keep_below hb2 hB⟩
  | true =>
    have hs := confB_small hv
    have HV := Lib.hid hv
    have hq : pw.tdiv 4 = pw / 4 := Int.tdiv_eq_ediv_of_nonneg (by omega)
    have hw : IntKind.i64.wrap (pw / 4) = pw / 4 := IntWalk.i64_in _ (by omega)
    clear hv
    go_enter Tryd.func62, Tryd.ntmps62
    go_wp2_with fail
    refine (conf_any pw pg _).mono ?_
    rw [HV.out]
    rintro e w2 ⟨rfl, hb2⟩
    have Y := X.below hb2
    have y0 := Y.cell 0 _ rfl
    clear X Y
    go_wp2_with fail
    go_ret
    exact ⟨by unfold smallC; rw [HV.out]; rfl, keep_below hb2 hB⟩
set_option linter.unusedSimpArgs false in
theorem rsmall_any (pw pg : Int) (w : World) : Calls Tryd.prog 66 #[confV pw pg] w fun e w' => e = .returned (.int .i64 (smallC pw pg)) ∧ Below w.heap.size w w' := by
  have hB : Below w.heap.size w (w.alloc (.cells #[.int .i64 pw, .int .i64 pg] 28)) := keep_alloc (Below.refl _ _) _
  have X := Blk.new w #[.int .i64 pw, .int .i64 pg] 28
  cases hv : confB pw pg with
  | false =>
    have HV := Lib.hid hv
    clear hv
    go_enter Tryd.func66, Tryd.ntmps66
    go_wp2_with fail
    refine (rconf_any pw pg _).mono ?_
    rw [HV.out]
    rintro e w2 ⟨rfl, hb2⟩
    go_wp2_with fail
    go_ret
    exact ⟨by unfold smallC; rw [HV.out]; rfl, keep_below hb2 hB⟩
  | true =>
    have hs := confB_small hv
    have HV := Lib.hid hv
    have hq : pw.tdiv 4 = pw / 4 := Int.tdiv_eq_ediv_of_nonneg (by omega)
    have hw : IntKind.i64.wrap (pw / 4) = pw / 4 := IntWalk.i64_in _ (by omega)
    clear hv
    go_enter Tryd.func66, Tryd.ntmps66
    go_wp2_with fail
    refine (rconf_any pw pg _).mono ?_
    rw [HV.out]
    rintro e w2 ⟨rfl, hb2⟩
    have Y := X.below hb2
    have y0 := Y.cell 0 _ rfl
    clear X Y
    go_wp2_with fail
    go_ret
    exact ⟨by unfold smallC; rw [HV.out]; rfl, keep_below hb2 hB⟩
end Go.Proofs.YtnnchinpmnpfiaaDoor
/- The pages that an object has for itself: Need of page and of its reference. -/
namespace Go.Proofs.YtnnchinpmnpfiaaDoor
open Go.RowKit Words

set_option linter.unusedSimpArgs false in
set_option maxHeartbeats 1000000 in
theorem need_any (pw pg n : Int) (w : World) : Calls Tryd.prog 44 #[confV pw pg, .int .i64 n] w fun e w' => e = .returned (.int .i64 (needC pw pg n)) ∧ Below w.heap.size w w' := by
  have hB : Below w.heap.size w (w.alloc (.cells #[.int .i64 pw, .int .i64 pg] 28)) := keep_alloc (Below.refl _ _) _
  have X := Blk.new w #[.int .i64 pw, .int .i64 pg] 28
  cases hv : confB pw pg with
  | false =>
    have HV := Lib.hid hv
    clear hv
    go_enter Tryd.func44, Tryd.ntmps44
    go_wp2_with fail
    refine (conf_any pw pg _).mono ?_
    rw [HV.out]
    rintro e w2 ⟨rfl, hb2⟩
    go_wp2_with fail
    go_ret
    exact ⟨by unfold needC; rw [HV.out]; rfl, keep_below hb2 hB⟩
  | true =>
    have hs := confB_small hv
    have HV := Lib.hid hv
    clear hv
    by_cases h1 : n < 1
    · have d1 : decide (n < 1) = true := decide_eq_true h1
      have HN := Lib.hid (show needC pw pg n = -1 from by unfold needC; rw [HV.out, if_pos rfl, if_pos (Or.inl h1)])
      clear h1
      go_enter Tryd.func44, Tryd.ntmps44
      go_wp2_with fail
      refine (conf_any pw pg _).mono ?_
      rw [HV.out]
      rintro e w2 ⟨rfl, hb2⟩
      go_wp2_with fail
      go_ret
      exact ⟨by rw [HN.out]; rfl, keep_below hb2 hB⟩
    have d1 : decide (n < 1) = false := decide_eq_false h1
    have hw4 : IntKind.i64.wrap (4 * pw) = 4 * pw := IntWalk.i64_in _ (by omega)
    by_cases h4 : 4 * pw < n
    · have d2 : decide (4 * pw < n) = true := decide_eq_true h4
      have HN := Lib.hid (show needC pw pg n = -1 from by unfold needC; rw [HV.out, if_pos rfl, if_pos (Or.inr h4)])
      clear h4 h1
      go_enter Tryd.func44, Tryd.ntmps44
      go_wp2_with fail
      refine (conf_any pw pg _).mono ?_
      rw [HV.out]
      rintro e w2 ⟨rfl, hb2⟩
      have y0 := (X.below hb2).cell 0 _ rfl
      go_wp2_with fail
      go_ret
      exact ⟨by rw [HN.out]; rfl, keep_below hb2 hB⟩
    have d2 : decide (4 * pw < n) = false := decide_eq_false h4
    have hsm : smallC pw pg = pw / 4 := by unfold smallC; rw [HV.out]; rfl
    have HSM := Lib.hid hsm
    clear hsm
    by_cases h5 : n ≤ pw / 4
    · have d3 : decide (n ≤ pw / 4) = true := decide_eq_true h5
      have HN := Lib.hid (show needC pw pg n = 0 from by unfold needC; rw [HV.out, if_pos rfl, if_neg (by omega), if_pos h5])
      clear h5 h4 h1
      go_enter Tryd.func44, Tryd.ntmps44
      go_wp2_with fail
      refine (conf_any pw pg _).mono ?_
      rw [HV.out]
      rintro e w2 ⟨rfl, hb2⟩
      have y0 := (X.below hb2).cell 0 _ rfl
      have y1 := (X.below hb2).cell 1 _ rfl
      go_wp2_with fail
      refine (small_any pw pg _).mono ?_
      rw [HSM.out]
      rintro e w3 ⟨rfl, hb3⟩
      clear y0 y1
      go_wp2_with fail
      go_ret
      exact ⟨by rw [HN.out]; rfl, keep_below hb3 (keep_below hb2 hB)⟩
    · have d3 : decide (n ≤ pw / 4) = false := decide_eq_false h5
      have HN := Lib.hid (show needC pw pg n = (n + pw - 1) / pw from by unfold needC; rw [HV.out, if_pos rfl, if_neg (by omega), if_neg h5])
      have hwa : IntKind.i64.wrap (n + pw) = n + pw := IntWalk.i64_in _ (by omega)
      have hwb : IntKind.i64.wrap (n + pw - 1) = n + pw - 1 := IntWalk.i64_in _ (by omega)
      have hq : (n + pw - 1).tdiv pw = (n + pw - 1) / pw := Int.tdiv_eq_ediv_of_nonneg (by omega)
      have hq0 : 0 ≤ (n + pw - 1) / pw := Int.ediv_nonneg (by omega) (by omega)
      have hq1 : (n + pw - 1) / pw ≤ n + pw - 1 := Int.ediv_le_self _ (by omega)
      obtain ⟨q, hqq⟩ : ∃ q, (n + pw - 1) / pw = q := ⟨_, rfl⟩
      rw [hqq] at hq hq0 hq1 HN
      have hwc : IntKind.i64.wrap q = q := IntWalk.i64_in _ (by omega)
      have hz : (pw == 0) = false := by simp; omega
      clear h5 h4 h1
      go_enter Tryd.func44, Tryd.ntmps44
      go_wp2_with fail
      refine (conf_any pw pg _).mono ?_
      rw [HV.out]
      rintro e w2 ⟨rfl, hb2⟩
      have y0 := (X.below hb2).cell 0 _ rfl
      have y1 := (X.below hb2).cell 1 _ rfl
      go_wp2_with fail
      refine (small_any pw pg _).mono ?_
      rw [HSM.out]
      rintro e w3 ⟨rfl, hb3⟩
      have z0 := keep_cell hb3 y0
      clear y0 y1
      go_wp2_with fail
      go_ret
      exact ⟨by rw [HN.out]; rfl, keep_below hb3 (keep_below hb2 hB)⟩
theorem need_k {pw n k : Int} (h0 : 0 < pw) (h1 : (k - 1) * pw < n) (h2 : n ≤ k * pw) : (n + pw - 1) / pw = k := by
  have ha : k * pw ≤ n + pw - 1 := by rw [Int.sub_mul] at h1; omega
  have hb : n + pw - 1 < (k + 1) * pw := by rw [Int.add_mul]; omega
  exact Int.le_antisymm (Int.lt_add_one_iff.1 (Int.ediv_lt_of_lt_mul h0 hb)) (Int.le_ediv_of_mul_le h0 ha)
set_option linter.unusedSimpArgs false in
set_option maxHeartbeats 1000000 in
theorem rneed_any (pw pg n : Int) (w : World) : Calls Tryd.prog 51 #[confV pw pg, .int .i64 n] w fun e w' => e = .returned (.int .i64 (needC pw pg n)) ∧ Below w.heap.size w w' := by
  have hB : Below w.heap.size w (w.alloc (.cells #[.int .i64 pw, .int .i64 pg] 28)) := keep_alloc (Below.refl _ _) _
  have X := Blk.new w #[.int .i64 pw, .int .i64 pg] 28
  cases hv : confB pw pg with
  | false =>
    have HV := Lib.hid hv
    clear hv
    go_enter Tryd.func51, Tryd.ntmps51
    go_wp2_with fail
    refine (rconf_any pw pg _).mono ?_
    rw [HV.out]
    rintro e w2 ⟨rfl, hb2⟩
    go_wp2_with fail
    go_ret
    exact ⟨by unfold needC; rw [HV.out]; rfl, keep_below hb2 hB⟩
  | true =>
    have hs := confB_small hv
    have HV := Lib.hid hv
    clear hv
    by_cases h1 : n < 1
    · have d1 : decide (n < 1) = true := decide_eq_true h1
      have HN := Lib.hid (show needC pw pg n = -1 from by unfold needC; rw [HV.out, if_pos rfl, if_pos (Or.inl h1)])
      clear h1
      go_enter Tryd.func51, Tryd.ntmps51
      go_wp2_with fail
      refine (rconf_any pw pg _).mono ?_
      rw [HV.out]
      rintro e w2 ⟨rfl, hb2⟩
      go_wp2_with fail
      go_ret
      exact ⟨by rw [HN.out]; rfl, keep_below hb2 hB⟩
    have d1 : decide (n < 1) = false := decide_eq_false h1
    have hsm : smallC pw pg = pw / 4 := by unfold smallC; rw [HV.out]; rfl
    have HSM := Lib.hid hsm
    clear hsm
    by_cases h5 : n ≤ pw / 4
    · have d3 : decide (n ≤ pw / 4) = true := decide_eq_true h5
      have HN := Lib.hid (show needC pw pg n = 0 from by unfold needC; rw [HV.out, if_pos rfl, if_neg (by omega), if_pos h5])
      clear h5 h1
      go_enter Tryd.func51, Tryd.ntmps51
      go_wp2_with fail
      refine (rconf_any pw pg _).mono ?_
      rw [HV.out]
      rintro e w2 ⟨rfl, hb2⟩
      have y0 := (X.below hb2).cell 0 _ rfl
      have y1 := (X.below hb2).cell 1 _ rfl
      go_wp2_with fail
      refine (rsmall_any pw pg _).mono ?_
      rw [HSM.out]
      rintro e w3 ⟨rfl, hb3⟩
      clear y0 y1
      go_wp2_with fail
      go_ret
      exact ⟨by rw [HN.out]; rfl, keep_below hb3 (keep_below hb2 hB)⟩
    · have d3 : decide (n ≤ pw / 4) = false := decide_eq_false h5
      have HN := Lib.hid (show ∀ k : Int, 1 ≤ k → k ≤ 4 → (k - 1) * pw < n → n ≤ k * pw → needC pw pg n = k from fun k k1 k4 ha hb => by
        have : ¬ (n < 1 ∨ 4 * pw < n) := by
          rintro (h | h)
          · omega
          · have : k * pw ≤ 4 * pw := Int.mul_le_mul_of_nonneg_right k4 (by omega)
            omega
        unfold needC; rw [HV.out, if_pos rfl, if_neg this, if_neg h5]; exact need_k (by omega) ha hb)
      have HN4 := Lib.hid (show 4 * pw < n → needC pw pg n = -1 from fun h => by unfold needC; rw [HV.out, if_pos rfl, if_pos (Or.inr h)])
      have HSZ := Lib.hid (show n > 0 from by omega)
      clear h5 h1
      go_enter Tryd.func51, Tryd.ntmps51
      go_wp2_with fail
      refine (rconf_any pw pg _).mono ?_
      rw [HV.out]
      rintro e w2 ⟨rfl, hb2⟩
      have y0 := (X.below hb2).cell 0 _ rfl
      have y1 := (X.below hb2).cell 1 _ rfl
      go_wp2_with fail
      refine (rsmall_any pw pg _).mono ?_
      rw [HSM.out]
      rintro e w3 ⟨rfl, hb3⟩
      have z0 := keep_cell hb3 y0
      have hB3 := keep_below hb3 (keep_below hb2 hB)
      clear y0 y1
      go_wp2_with fail
      go_loop [5] (fun x => ∃ k : Nat, 1 ≤ k ∧ k ≤ 5 ∧ x = .int .i64 k ∧ ((k : Int) - 1) * pw < n) (fun x => 5 - (intOf x).toNat)
      case atStart => exact ⟨1, by omega, by omega, rfl, by have := HSZ.out; omega⟩
      case round =>
        obtain ⟨k, hk1, hk5, rfl, hlt⟩ := hrel
        have HLT := Lib.hid hlt
        clear hlt
        by_cases h4 : k ≤ 4
        · have d4 : decide ((k : Int) ≤ 4) = true := decide_eq_true (by omega)
          have d4' : decide (k ≤ 4) = true := decide_eq_true h4
          have hp0 : 0 ≤ (k : Int) * pw := Int.mul_nonneg (by omega) (by omega)
          have hp1 : (k : Int) * pw ≤ 4 * pw := Int.mul_le_mul_of_nonneg_right (by omega) (by omega)
          have hw1 : IntKind.i64.wrap ((k : Int) * pw) = (k : Int) * pw := IntWalk.i64_in _ (by omega)
          have hw2 : IntKind.i64.wrap ((k : Int) + 1) = (k : Int) + 1 := IntWalk.i64_in _ (by omega)
          by_cases hge : n ≤ (k : Int) * pw
          · have d5 : decide (n ≤ (k : Int) * pw) = true := decide_eq_true hge
            have HR := Lib.hid (HN.out k (by omega) (by omega) HLT.out hge)
            clear hge hp0 hp1
            go_wp2_with fail
            go_ret
            exact ⟨by rw [HR.out]; rfl, hB3⟩
          · have d5 : decide (n ≤ (k : Int) * pw) = false := decide_eq_false hge
            have HGE := Lib.hid hge
            clear hge hp0 hp1
            go_wp2_with fail
            go_round
            case rel => exact ⟨k + 1, by omega, by omega, by go_num, by have := HGE.out; rw [show (((k + 1 : Nat) : Int) - 1) = (k : Int) by omega]; omega⟩
            case measure => simp [intOf]; omega
        · have d4 : decide ((k : Int) ≤ 4) = false := decide_eq_false (by omega)
          have d4' : decide (k ≤ 4) = false := decide_eq_false h4
          obtain rfl : k = 5 := by omega
          go_wp2_with fail
          go_ret
          exact ⟨by rw [HN4.out (by have := HLT.out; omega)]; rfl, hB3⟩
end Go.Proofs.YtnnchinpmnpfiaaDoor
/- The size of an object, and which objects can be asked for. PRINTED BY A PROGRAM (mk_m22.py). -/
namespace Go.Proofs.YtnnchinpmnpfiaaDoor
open Go.RowKit Words

def sizeH (k len m : Int) : Int := if validH k len m = true then len + 1 else 0
def asksH (pw pg k len m : Int) : Bool := validH k len m && (decide (k ≠ 0) && decide (0 ≤ needC pw pg (len + 1)))
theorem validH_len {k len m : Int} (h : validH k len m = true) : 0 ≤ k ∧ k ≤ 3 ∧ 0 ≤ len ∧ len ≤ 255 := by
  simp only [validH, Bool.and_eq_true, decide_eq_true_eq] at h
  exact ⟨h.1.1.1.1, h.1.1.1.2, h.1.1.2, h.1.2⟩
theorem needC_ge (pw pg n : Int) : -1 ≤ needC pw pg n ∧ (needC pw pg n ≠ -1 ↔ 0 ≤ needC pw pg n) := by
  have : -1 ≤ needC pw pg n := by
    unfold needC
    split
    · rename_i h
      have hs := confB_small h
      split
      · omega
      · split
        · omega
        · have : 0 ≤ (n + pw - 1) / pw := Int.ediv_nonneg (by omega) (by omega)
          omega
    · omega
  exact ⟨this, by omega⟩
theorem hv_val (k len m : Int) (vb : Bool) (w : World) (hm0 : 0 ≤ m) (hm1 : m ≤ 4294967295) (h : validH k len m = vb) : Calls Tryd.prog 24 #[headV k len m] w fun e w' => e = .returned (.bool vb) ∧ Below w.heap.size w w' := by
  subst h
  exact hvalid_any k len m w hm0 hm1
theorem size_any (k len m : Int) (w : World) (hm0 : 0 ≤ m) (hm1 : m ≤ 4294967295) : Calls Tryd.prog 45 #[headV k len m] w fun e w' => e = .returned (.int .i64 (sizeH k len m)) ∧ Below w.heap.size w w' := by
  have hB : Below w.heap.size w (w.alloc (.cells #[.int .i64 k, .int .i64 len, .int .u32 m] 73)) := keep_alloc (Below.refl _ _) _
  have X := Blk.new w #[.int .i64 k, .int .i64 len, .int .u32 m] 73
  cases hv : validH k len m with
  | false =>
    have HV := Lib.hid hv
    clear hv
    go_enter Tryd.func45, Tryd.ntmps45
    go_wp2_with fail
    refine (hv_val k len m false _ hm0 hm1 HV.out).mono ?_
    rintro e w2 ⟨rfl, hb2⟩
    go_wp2_with fail
    go_ret
    exact ⟨by unfold sizeH; rw [HV.out]; rfl, keep_below hb2 hB⟩
  | true =>
    have hs := validH_len hv
    have HV := Lib.hid hv
    have hw : IntKind.i64.wrap (len + 1) = len + 1 := IntWalk.i64_in _ (by omega)
    clear hv
    go_enter Tryd.func45, Tryd.ntmps45
    go_wp2_with fail
    refine (hv_val k len m true _ hm0 hm1 HV.out).mono ?_
    rintro e w2 ⟨rfl, hb2⟩
    have y1 := (X.below hb2).cell 1 _ rfl
    go_wp2_with fail
    go_ret
    exact ⟨by unfold sizeH; rw [HV.out]; rfl, keep_below hb2 hB⟩
theorem size_val (k len m n : Int) (w : World) (hm0 : 0 ≤ m) (hm1 : m ≤ 4294967295) (h : sizeH k len m = n) : Calls Tryd.prog 45 #[headV k len m] w fun e w' => e = .returned (.int .i64 n) ∧ Below w.heap.size w w' := by
  subst h
  exact size_any k len m w hm0 hm1
theorem need_val (pw pg n q : Int) (w : World) (h : needC pw pg n = q) : Calls Tryd.prog 44 #[confV pw pg, .int .i64 n] w fun e w' => e = .returned (.int .i64 q) ∧ Below w.heap.size w w' := by
  subst h
  exact need_any pw pg n w
set_option linter.unusedSimpArgs false in
set_option maxRecDepth 100000 in
set_option maxHeartbeats 2000000 in
theorem asks_any (pw pg k len m : Int) (w : World) (hm0 : 0 ≤ m) (hm1 : m ≤ 4294967295) : Calls Tryd.prog 25 #[confV pw pg, headV k len m] w fun e w' => e = .returned (.bool (asksH pw pg k len m)) ∧ Below w.heap.size w w' := by
  have hB : Below w.heap.size w ((w.alloc (.cells #[.int .i64 pw, .int .i64 pg] 28)).alloc (.cells #[.int .i64 k, .int .i64 len, .int .u32 m] 73)) := keep_alloc (keep_alloc (Below.refl _ _) _) _
  have X := (Blk.new w #[.int .i64 pw, .int .i64 pg] 28).alloc (.cells #[.int .i64 k, .int .i64 len, .int .u32 m] 73)
  have Y := Blk.newAt (w.alloc (.cells #[.int .i64 pw, .int .i64 pg] 28)) #[.int .i64 k, .int .i64 len, .int .u32 m] 73 (w.heap.size + 1) (by simp)
  have x0 := Lag.cell (X.cell 0 _ rfl)
  have x1 := Lag.cell (X.cell 1 _ rfl)
  have y0 := Lag.cell (Y.cell 0 _ rfl)
  have y1 := Lag.cell (Y.cell 1 _ rfl)
  have y2 := Lag.cell (Y.cell 2 _ rfl)
  clear X Y
  cases hv : validH k len m with
  | false =>
    have HV := Lib.hid hv
    clear hv
    go_enter Tryd.func25, Tryd.ntmps25
    go_upto_region 1 with fail
    refine wp_region_lag (by kernel_rfl) (by kernel_rfl) ?_
    repeat (go_big_quiet_step ((go_at_call 24; exact Calls.lag (hv_val k len m false _ hm0 hm1 HV.out))))
    refine wpQuiet_nil ?_
    rintro _ ⟨⟨w2, hb2⟩, rfl⟩
    go_wp2_with fail
    go_ret
    exact ⟨by unfold asksH; rw [HV.out]; rfl, keep_below hb2 hB⟩
  | true =>
    have hs := validH_len hv
    have HV := Lib.hid hv
    have HS := Lib.hid (show sizeH k len m = len + 1 from by unfold sizeH; rw [hv]; rfl)
    clear hv
    by_cases h0 : k = 0
    · have d0 : (k != 0) = false := by simp [h0]
      have HA := Lib.hid (show asksH pw pg k len m = false from by unfold asksH; rw [HV.out, decide_eq_false (by simp [h0])]; rfl)
      clear h0 hs
      go_enter Tryd.func25, Tryd.ntmps25
      go_upto_region 1 with fail
      refine wp_region_lag (by kernel_rfl) (by kernel_rfl) ?_
      repeat (go_big_quiet_step ((go_at_call 24; exact Calls.lag (hv_val k len m true _ hm0 hm1 HV.out))))
      refine wpQuiet_nil ?_
      rintro _ ⟨⟨w2, hb2⟩, rfl⟩
      go_wp2_with fail
      go_ret
      exact ⟨by rw [HA.out]; rfl, keep_below hb2 hB⟩
    · have d0 : (k != 0) = true := by simp [h0]
      obtain ⟨nd, hnd⟩ : ∃ nd, needC pw pg (len + 1) = nd := ⟨_, rfl⟩
      obtain ⟨nb, hnb⟩ : ∃ nb : Bool, decide (0 ≤ nd) = nb := ⟨_, rfl⟩
      have d3 : decide (0 ≤ nd) = nb := by rw [← hnb]
      have HND := Lib.hid hnd
      have HA := Lib.hid (show asksH pw pg k len m = nb from by unfold asksH; rw [HV.out, decide_eq_true (by simpa using h0), hnd, hnb]; rfl)
      clear h0 hs hnd hnb
      go_enter Tryd.func25, Tryd.ntmps25
      go_upto_region 1 with fail
      refine wp_region_lag (by kernel_rfl) (by kernel_rfl) ?_
      repeat (go_big_quiet_step (first
        | (go_at_call 24; exact Calls.lag (hv_val k len m true _ hm0 hm1 HV.out))
        | (go_at_call 45; exact Calls.lag (size_val k len m (len + 1) _ hm0 hm1 HS.out))
        | (go_at_call 44; exact Calls.lag (need_val pw pg (len + 1) nd _ HND.out))))
      refine wpQuiet_nil ?_
      rintro _ ⟨⟨w2, hb2⟩, rfl⟩
      go_wp2_with fail
      go_ret
      exact ⟨by rw [HA.out]; rfl, keep_below hb2 hB⟩
theorem rhv_val (k len m : Int) (vb : Bool) (w : World) (hm0 : 0 ≤ m) (hm1 : m ≤ 4294967295) (h : validH k len m = vb) : Calls Tryd.prog 31 #[headV k len m] w fun e w' => e = .returned (.bool vb) ∧ Below w.heap.size w w' := by
  subst h
  exact rhvalid_any k len m w hm0 hm1
theorem rsize_any (k len m : Int) (w : World) (hm0 : 0 ≤ m) (hm1 : m ≤ 4294967295) : Calls Tryd.prog 52 #[headV k len m] w fun e w' => e = .returned (.int .i64 (sizeH k len m)) ∧ Below w.heap.size w w' := by
  have hB : Below w.heap.size w (w.alloc (.cells #[.int .i64 k, .int .i64 len, .int .u32 m] 73)) := keep_alloc (Below.refl _ _) _
  have X := Blk.new w #[.int .i64 k, .int .i64 len, .int .u32 m] 73
  cases hv : validH k len m with
  | false =>
    have HV := Lib.hid hv
    clear hv
    go_enter Tryd.func52, Tryd.ntmps52
    go_wp2_with fail
    refine (rhv_val k len m false _ hm0 hm1 HV.out).mono ?_
    rintro e w2 ⟨rfl, hb2⟩
    go_wp2_with fail
    go_ret
    exact ⟨by unfold sizeH; rw [HV.out]; rfl, keep_below hb2 hB⟩
  | true =>
    have hs := validH_len hv
    have HV := Lib.hid hv
    have hw : IntKind.i64.wrap (len + 1) = len + 1 := IntWalk.i64_in _ (by omega)
    clear hv
    go_enter Tryd.func52, Tryd.ntmps52
    go_wp2_with fail
    refine (rhv_val k len m true _ hm0 hm1 HV.out).mono ?_
    rintro e w2 ⟨rfl, hb2⟩
    have y1 := (X.below hb2).cell 1 _ rfl
    go_wp2_with fail
    go_ret
    exact ⟨by unfold sizeH; rw [HV.out]; rfl, keep_below hb2 hB⟩
theorem rsize_val (k len m n : Int) (w : World) (hm0 : 0 ≤ m) (hm1 : m ≤ 4294967295) (h : sizeH k len m = n) : Calls Tryd.prog 52 #[headV k len m] w fun e w' => e = .returned (.int .i64 n) ∧ Below w.heap.size w w' := by
  subst h
  exact rsize_any k len m w hm0 hm1
theorem rneed_val (pw pg n q : Int) (w : World) (h : needC pw pg n = q) : Calls Tryd.prog 51 #[confV pw pg, .int .i64 n] w fun e w' => e = .returned (.int .i64 q) ∧ Below w.heap.size w w' := by
  subst h
  exact rneed_any pw pg n w
set_option linter.unusedSimpArgs false in
set_option maxRecDepth 100000 in
set_option maxHeartbeats 2000000 in
theorem rasks_any (pw pg k len m : Int) (w : World) (hm0 : 0 ≤ m) (hm1 : m ≤ 4294967295) : Calls Tryd.prog 32 #[confV pw pg, headV k len m] w fun e w' => e = .returned (.bool (asksH pw pg k len m)) ∧ Below w.heap.size w w' := by
  have hB : Below w.heap.size w ((w.alloc (.cells #[.int .i64 pw, .int .i64 pg] 28)).alloc (.cells #[.int .i64 k, .int .i64 len, .int .u32 m] 73)) := keep_alloc (keep_alloc (Below.refl _ _) _) _
  have X := (Blk.new w #[.int .i64 pw, .int .i64 pg] 28).alloc (.cells #[.int .i64 k, .int .i64 len, .int .u32 m] 73)
  have Y := Blk.newAt (w.alloc (.cells #[.int .i64 pw, .int .i64 pg] 28)) #[.int .i64 k, .int .i64 len, .int .u32 m] 73 (w.heap.size + 1) (by simp)
  have x0 := Lag.cell (X.cell 0 _ rfl)
  have x1 := Lag.cell (X.cell 1 _ rfl)
  have y0 := Lag.cell (Y.cell 0 _ rfl)
  have y1 := Lag.cell (Y.cell 1 _ rfl)
  have y2 := Lag.cell (Y.cell 2 _ rfl)
  clear X Y
  cases hv : validH k len m with
  | false =>
    have HV := Lib.hid hv
    clear hv
    go_enter Tryd.func32, Tryd.ntmps32
    go_upto_region 1 with fail
    refine wp_region_lag (by kernel_rfl) (by kernel_rfl) ?_
    repeat (go_big_quiet_step ((go_at_call 31; exact Calls.lag (rhv_val k len m false _ hm0 hm1 HV.out))))
    refine wpQuiet_nil ?_
    rintro _ ⟨⟨w2, hb2⟩, rfl⟩
    go_wp2_with fail
    go_ret
    exact ⟨by unfold asksH; rw [HV.out]; rfl, keep_below hb2 hB⟩
  | true =>
    have hs := validH_len hv
    have HV := Lib.hid hv
    have HS := Lib.hid (show sizeH k len m = len + 1 from by unfold sizeH; rw [hv]; rfl)
    clear hv
    by_cases h0 : k = 0
    · have d0 : (k != 0) = false := by simp [h0]
      have HA := Lib.hid (show asksH pw pg k len m = false from by unfold asksH; rw [HV.out, decide_eq_false (by simp [h0])]; rfl)
      clear h0 hs
      go_enter Tryd.func32, Tryd.ntmps32
      go_upto_region 1 with fail
      refine wp_region_lag (by kernel_rfl) (by kernel_rfl) ?_
      repeat (go_big_quiet_step ((go_at_call 31; exact Calls.lag (rhv_val k len m true _ hm0 hm1 HV.out))))
      refine wpQuiet_nil ?_
      rintro _ ⟨⟨w2, hb2⟩, rfl⟩
      go_wp2_with fail
      go_ret
      exact ⟨by rw [HA.out]; rfl, keep_below hb2 hB⟩
    · have d0 : (k != 0) = true := by simp [h0]
      obtain ⟨nd, hnd⟩ : ∃ nd, needC pw pg (len + 1) = nd := ⟨_, rfl⟩
      obtain ⟨nb, hnb⟩ : ∃ nb : Bool, decide (0 ≤ nd) = nb := ⟨_, rfl⟩
      have d3 : (nd != -1) = nb := by rw [← hnb]; have := needC_ge pw pg (len + 1); rw [hnd] at this; by_cases h : nd = -1; (subst h; rfl); (rw [decide_eq_true (this.2.1 h)]; exact bne_iff_ne.2 h)
      have HND := Lib.hid hnd
      have HA := Lib.hid (show asksH pw pg k len m = nb from by unfold asksH; rw [HV.out, decide_eq_true (by simpa using h0), hnd, hnb]; rfl)
      clear h0 hs hnd hnb
      go_enter Tryd.func32, Tryd.ntmps32
      go_upto_region 1 with fail
      refine wp_region_lag (by kernel_rfl) (by kernel_rfl) ?_
      repeat (go_big_quiet_step (first
        | (go_at_call 31; exact Calls.lag (rhv_val k len m true _ hm0 hm1 HV.out))
        | (go_at_call 52; exact Calls.lag (rsize_val k len m (len + 1) _ hm0 hm1 HS.out))
        | (go_at_call 51; exact Calls.lag (rneed_val pw pg (len + 1) nd _ HND.out))))
      refine wpQuiet_nil ?_
      rintro _ ⟨⟨w2, hb2⟩, rfl⟩
      go_wp2_with fail
      go_ret
      exact ⟨by rw [HA.out]; rfl, keep_below hb2 hB⟩
end Go.Proofs.YtnnchinpmnpfiaaDoor
/- The shapes of a program: which are allowed; counting over them by a closure. -/
namespace Go.Proofs.YtnnchinpmnpfiaaDoor
open Go.ChangeShapes Go.WideShapes Go.RowKit Words

theorem hdCells_len (x : HD) : (hdCells x).length = 3 := rfl
/-- is a header one of a record that can be asked for? -/
def shB (pw pg : Int) (h : HD) : Bool := decide (h.k = 1) && (validH h.k h.len h.m && asksH pw pg h.k h.len h.m)
def HD.ok (h : HD) : Prop := I64 h.k ∧ I64 h.len ∧ 0 ≤ h.m ∧ h.m ≤ 4294967295
set_option linter.unusedSimpArgs false in
set_option maxHeartbeats 1000000 in
theorem check1_any (pw pg : Int) (h : HD) (gc : Nat) (w : World) (hC : Blk w gc 28 #[.int .i64 pw, .int .i64 pg]) (hm0 : 0 ≤ h.m) (hm1 : h.m ≤ 4294967295) :
    Calls Tryd.prog 23 #[headV h.k h.len h.m, .pointer (some ⟨gc, 0, none⟩)] w fun e w' => e = .returned (.bool (shB pw pg h)) ∧ Below w.heap.size w w' := by
  obtain ⟨k, len, m⟩ := h
  dsimp only at hm0 hm1 ⊢
  have hB : Below w.heap.size w (w.alloc (.cells #[.int .i64 k, .int .i64 len, .int .u32 m] 73)) := keep_alloc (Below.refl _ _) _
  have X := Blk.new w #[.int .i64 k, .int .i64 len, .int .u32 m] 73
  have C := hC.below hB
  clear hC
  by_cases h0 : k = 1
  · have d0 : (k == 1) = true := by simp [h0]
    cases hv : validH k len m with
    | false =>
      have HV := Lib.hid hv
      have HS := Lib.hid (show shB pw pg ⟨k, len, m⟩ = false from by unfold shB; rw [hv, Bool.false_and, Bool.and_false])
      clear hv h0
      go_enter Tryd.func23, Tryd.ntmps23
      go_wp2_with fail
      refine (hv_val k len m false _ hm0 hm1 HV.out).mono ?_
      rintro e w2 ⟨rfl, hb2⟩
      go_wp2_with fail
      go_ret
      exact ⟨by rw [HS.out]; rfl, keep_below hb2 hB⟩
    | true =>
      obtain ⟨q, hq⟩ : ∃ q, asksH pw pg k len m = q := ⟨_, rfl⟩
      have HV := Lib.hid hv
      have HS := Lib.hid (show shB pw pg ⟨k, len, m⟩ = q from by unfold shB; rw [hv, ← hq, decide_eq_true h0]; rfl)
      have HQ := Lib.hid hq
      clear hv h0 hq
      go_enter Tryd.func23, Tryd.ntmps23
      go_wp2_with fail
      refine (hv_val k len m true _ hm0 hm1 HV.out).mono ?_
      rintro e w2 ⟨rfl, hb2⟩
      have Y := X.below hb2
      have D := C.below hb2
      have y0 := Y.cell 0 _ rfl
      have y1 := Y.cell 1 _ rfl
      have y2 := Y.cell 2 _ rfl
      have c0 := D.cell 0 _ rfl
      have c1 := D.cell 1 _ rfl
      clear X C
      go_wp2_with fail
      refine (asks_any pw pg k len m _ hm0 hm1).mono ?_
      rw [HQ.out]
      rintro e w3 ⟨rfl, hb3⟩
      clear y0 y1 y2 c0 c1
      go_wp2_with fail
      go_ret
      exact ⟨by rw [HS.out]; rfl, keep_below hb3 (keep_below hb2 hB)⟩
  · have d0 : (k == 1) = false := by simp [h0]
    have HS := Lib.hid (show shB pw pg ⟨k, len, m⟩ = false from by unfold shB; rw [decide_eq_false h0]; rfl)
    clear h0
    go_enter Tryd.func23, Tryd.ntmps23
    go_wp2_with fail
    go_ret
    exact ⟨by rw [HS.out]; rfl, hB⟩
set_option maxHeartbeats 1000000 in
theorem cntH_any (pw pg : Int) (gc : Nat) (A : Option Addr) (n c : Nat) (l : List HD) (w : World) (h : Reads w w.heap.size 3 A n c (l.flatMap hdCells)) (hC : Blk w gc 28 #[.int .i64 pw, .int .i64 pg]) (hl : ∀ x ∈ l, x.ok) (hn : n ≤ 1000000) :
    Calls Tryd.prog 42 #[.slice A n c, .func (.func 23) #[] #[.pointer (some ⟨gc, 0, none⟩)]] w fun e w' => e = .returned (.int .i64 ((l.filter (shB pw pg)).length : Nat)) ∧ Below w.heap.size w w' := by
  have hlen := h.length hdCells_len (by omega)
  have HL := Lib.hid hlen
  have HLO := Lib.hid hl
  have HC := Lib.hid hC
  obtain ⟨sb, hsb⟩ : ∃ sb, shB pw pg = sb := ⟨_, rfl⟩
  have HSB := Lib.hid hsb
  rw [hsb]
  clear hlen hl hC hsb
  go_enter Tryd.func42, Tryd.ntmps42
  go_wp2_with fail
  go_loopw [5, 10] (fun s x wq => ∃ k q : Nat, k ≤ n ∧ q ≤ k ∧ x = .int .i64 k ∧ s = .int .i64 q ∧ q = ((l.take k).filter sb).length ∧ Below w.heap.size w wq) (fun _ x _ => n - (intOf x).toNat)
  case atStart => exact ⟨0, 0, Nat.zero_le _, Nat.le_refl _, rfl, rfl, rfl, Below.refl _ _⟩
  case round =>
    obtain ⟨k, q, hk, hqk, rfl, rfl, hq, hb⟩ := hrel
    have HQ := Lib.hid hq
    clear hq
    by_cases hlt : k < n
    · obtain ⟨b0, off, x, rfl, hbb, hx, hc⟩ := (h.belowU hb).elem hdCells_len (by omega) hlt
      have HX := Lib.hid hx
      have hxo := HLO.out x (List.mem_of_getElem? hx)
      have HK := Lib.hid (show ∀ wq, Below w.heap.size w wq → Calls Tryd.prog 23 #[headV x.k x.len x.m, .pointer (some ⟨gc, 0, none⟩)] wq fun e w' => e = .returned (.bool (sb x)) ∧ Below wq.heap.size wq w' from fun wq hq => by
        rw [← HSB.out]
        exact check1_any pw pg x gc wq ((HC.out).below hq) hxo.2.2.1 hxo.2.2.2)
      obtain ⟨xk, xl, xm⟩ := x
      have d0 := hc 0 _ rfl
      have d1 := hc 1 _ rfl
      have d2 := hc 2 _ rfl
      rw [Nat.add_zero] at d0
      dsimp only at d0 d1 d2
      have hk0 : (0 : Int) ≤ (k : Int) := by omega
      have hk1 : (k : Int) < (n : Int) := by omega
      have hd : decide ((k : Int) < (n : Int)) = true := decide_eq_true hk1
      have hd2 : decide (k < n) = true := decide_eq_true hlt
      have hw : IntKind.i64.wrap ((k : Int) + 1) = (k : Int) + 1 := IntWalk.i64_in _ (by omega)
      have hw2 : IntKind.i64.wrap ((q : Int) + 1) = (q : Int) + 1 := IntWalk.i64_in _ (by omega)
      have HB := Lib.hid (keep_alloc hb (.cells #[.int .i64 xk, .int .i64 xl, .int .u32 xm] 73))
      clear hc hx hxo
      go_wp2_with fail
      refine (HK.out _ HB.out).mono ?_
      clear HK
      cases hp : sb ⟨xk, xl, xm⟩ with
      | true =>
        have HP := Lib.hid hp
        clear hp d0
        rintro e w2 ⟨rfl, hb2⟩
        have HB2 := Lib.hid (keep_below hb2 HB.out)
        clear hb2
        go_wp2_with fail
        go_roundw
        case rel => exact ⟨k + 1, q + 1, by omega, by omega, by go_num, by go_num, by rw [take_nx' HX.out, List.filter_append, List.length_append, ← HQ.out, List.filter_cons_of_pos HP.out]; rfl, HB2.out⟩
        case measure => simp [intOf]; omega
      | false =>
        have HP := Lib.hid hp
        clear hp d0
        rintro e w2 ⟨rfl, hb2⟩
        have HB2 := Lib.hid (keep_below hb2 HB.out)
        clear hb2
        go_wp2_with fail
        go_roundw
        case rel => exact ⟨k + 1, q, by omega, by omega, by go_num, rfl, by rw [take_nx' HX.out, List.filter_append, List.length_append, ← HQ.out, List.filter_cons_of_neg (by rw [HP.out]; decide)]; rfl, HB2.out⟩
        case measure => simp [intOf]; omega
    · have hkn : k = n := by omega
      subst hkn
      have hd : decide ((k : Int) < (k : Int)) = false := by simp
      have hd2 : decide (k < k) = false := by simp
      have HV := Lib.hid (show q = (l.filter sb).length from by rw [HQ.out, List.take_of_length_le (by rw [HL.out]; omega)])
      go_wp2_with fail
      go_ret
      exact ⟨by rw [← HV.out]; rfl, hb⟩
theorem allH_any (pw pg : Int) (gc : Nat) (A : Option Addr) (n c : Nat) (l : List HD) (w : World) (h : Reads w w.heap.size 3 A n c (l.flatMap hdCells)) (hC : Blk w gc 28 #[.int .i64 pw, .int .i64 pg]) (hl : ∀ x ∈ l, x.ok) (hn : n ≤ 1000000) :
    Calls Tryd.prog 22 #[.slice A n c, .func (.func 23) #[] #[.pointer (some ⟨gc, 0, none⟩)]] w fun e w' => e = .returned (.bool (l.all (shB pw pg))) ∧ Below w.heap.size w w' := by
  have hlen := h.length hdCells_len (by omega)
  have HV := Lib.hid (show l.all (shB pw pg) = (((l.filter (shB pw pg)).length : Int) == (n : Int)) from by rw [← hlen]; exact all_count _ l)
  clear hlen
  go_enter Tryd.func22, Tryd.ntmps22
  go_wp2_with fail
  refine (cntH_any pw pg gc A n c l _ h hC hl hn).mono ?_
  rintro e w2 ⟨rfl, hb2⟩
  go_wp2_with fail
  go_ret
  exact ⟨by rw [HV.out]; rfl, hb2⟩
end Go.Proofs.YtnnchinpmnpfiaaDoor
/- Check of the program, whatever it is given. -/
namespace Go.Proofs.YtnnchinpmnpfiaaDoor
open Go.ChangeShapes Go.WideShapes Go.RowKit Words

theorem Reads.uniq {w : World} {B B' s n c : Nat} {A : Option Addr} {xs ys : List Value} (h1 : Reads w B s A n c xs) (h2 : Reads w B' s A n c ys) : xs = ys := by
  have l1 := h1.len
  have l2 := h2.len
  by_cases hn : 0 < n
  · obtain ⟨b, off, e, -, hc⟩ := h1.at_ hn
    obtain ⟨b', off', e', -, hc'⟩ := h2.at_ hn
    rw [e] at e'
    cases e'
    refine List.ext_getElem? fun j => ?_
    by_cases hj : j < n * s
    · have a1 := hc j _ (List.getElem?_eq_getElem (by omega))
      have a2 := hc' j _ (List.getElem?_eq_getElem (by omega))
      rw [a1] at a2
      rw [List.getElem?_eq_getElem (by omega), List.getElem?_eq_getElem (by omega)]
      exact a2
    · rw [List.getElem?_eq_none (by omega), List.getElem?_eq_none (by omega)]
  · obtain rfl : n = 0 := by omega
    rw [Nat.zero_mul] at l1 l2
    rw [List.eq_nil_of_length_eq_zero l1, List.eq_nil_of_length_eq_zero l2]
theorem flat_inj {α : Type} {f : α → List Value} {s : Nat} (hs : ∀ a, (f a).length = s) (h0 : 0 < s) (inj : ∀ a b, f a = f b → a = b) : ∀ {l l' : List α}, l.flatMap f = l'.flatMap f → l = l'
  | [], [], _ => rfl
  | [], b :: r, h => by
    have := congrArg List.length h
    rw [List.flatMap_cons, List.length_append, hs] at this
    simp at this
    omega
  | a :: r, [], h => by
    have := congrArg List.length h
    rw [List.flatMap_cons, List.length_append, hs] at this
    simp at this
    omega
  | a :: r, b :: r', h => by
    rw [List.flatMap_cons, List.flatMap_cons] at h
    obtain ⟨h1, h2⟩ := List.append_inj h (by rw [hs, hs])
    rw [inj a b h1, flat_inj hs h0 inj h2]
theorem intCells_inj (a b : Int) (h : intCells a = intCells b) : a = b := by
  simpa [intCells] using h
theorem insCells_inj (a b : NI) (h : insCells a = insCells b) : a = b := by
  obtain ⟨o, x, y, z, k⟩ := a
  obtain ⟨o', x', y', z', k'⟩ := b
  simp only [insCells, List.cons.injEq, Value.int.injEq, true_and, and_true] at h
  obtain ⟨rfl, rfl, rfl, rfl, h⟩ := h
  rw [U_inj h]
theorem FnAt.uniq {w : World} {x : FC} {f g : Fn} (h1 : FnAt w x f) (h2 : FnAt w x g) : f = g := by
  obtain ⟨p, l, r, i⟩ := f
  obtain ⟨p', l', r', i'⟩ := g
  obtain rfl : p = p' := h1.p.symm.trans h2.p
  obtain rfl : r = r' := h1.r.symm.trans h2.r
  obtain rfl : l = l' := flat_inj (f := intCells) (s := 1) (fun _ => rfl) (by omega) intCells_inj (h1.locs.uniq h2.locs)
  obtain rfl : i = i' := flat_inj insCells_len (by omega) insCells_inj (h1.ins.uniq h2.ins)
  rfl
open Classical in
/-- what is said of functions, said of their cells -/
theorem FnsAt.lift {w : World} {xs : List FC} {fs : List Fn} (h : FnsAt w xs fs) (q : Fn → Bool) : ∃ p : FC → Bool, ∀ (i : Nat) x f, xs[i]? = some x → fs[i]? = some f → p x = q f := by
  refine ⟨fun x => if h : ∃ f, (∃ i : Nat, xs[i]? = some x ∧ fs[i]? = some f) then q h.choose else false, fun i x f h1 h2 => ?_⟩
  have hex : ∃ f, ∃ i : Nat, xs[i]? = some x ∧ fs[i]? = some f := ⟨f, i, h1, h2⟩
  dsimp only
  rw [dif_pos hex]
  obtain ⟨j, h3, h4⟩ := hex.choose_spec
  rw [(h.2 j x _ h3 h4).uniq (h.2 i x f h1 h2)]
theorem all_pair {α β : Type} {p : α → Bool} {q : β → Bool} : ∀ {xs : List α} {fs : List β}, xs.length = fs.length → (∀ (i : Nat) x f, xs[i]? = some x → fs[i]? = some f → p x = q f) → xs.all p = fs.all q
  | [], [], _, _ => rfl
  | [], _ :: _, h, _ => by simp at h
  | _ :: _, [], h, _ => by simp at h
  | a :: r, b :: s, h, hp => by
    rw [List.all_cons, List.all_cons, hp 0 a b rfl rfl, all_pair (xs := r) (fs := s) (by simpa using h) (fun i x f h1 h2 => hp (i + 1) x f (by simpa using h1) (by simpa using h2))]
/-- does an instruction fit a function? -/
def suitB (P : Prg) (f : Fn) (x : NI) : Bool := (kindsS P.shs.length f.ins.length P.fns P.nats f.locs f.r x).2.2 && (numB x && suitF f.locs (kindsS P.shs.length f.ins.length P.fns P.nats f.locs f.r x).1 (kindsS P.shs.length f.ins.length P.fns P.nats f.locs f.r x).2.1)
def fnB (P : Prg) (f : Fn) : Bool := validF f.locs f.p f.r f.ins (suitB P f)
def headB (P : Prg) : Bool := match P.fns[0]? with | some f => decide (f.p = 0) && decide (f.r = 1) | none => false
def checkB (P : Prg) (pw pg : Int) : Bool :=
  decide (1 ≤ P.fns.length) && (decide (P.fns.length ≤ 16) && (decide (P.shs.length ≤ 16) && (decide (P.nats.length ≤ 16) && (P.shs.all (shB pw pg) && (P.nats.all fewB && (headB P && P.fns.all (fnB P)))))))
def checkE (P : Prg) (pw pg : Int) : Int := if checkB P pw pg = true then 0 else 16
structure Fn.ok (f : Fn) : Prop where
  p : I64 f.p
  r : I64 f.r
  nl : f.locs.length ≤ 1000000
  ni : f.ins.length ≤ 1000000
  ins : ∀ x ∈ f.ins, x.ok64
structure Prg.ok (P : Prg) : Prop where
  ns : P.shs.length ≤ 1000000
  nf : P.fns.length ≤ 1000000
  nn : P.nats.length ≤ 1000000
  shs : ∀ h ∈ P.shs, h.ok
  fns : ∀ f ∈ P.fns, f.ok
theorem kindsS_len (ns m : Nat) (fns : List Fn) (nats : List Int) (locs : List Int) (r : Int) (x : NI) : (kindsS ns m fns nats locs r x).1.length = (kindsS ns m fns nats locs r x).2.1.length ∧ (kindsS ns m fns nats locs r x).1.length ≤ 1000 := by
  unfold kindsS
  split
  · simp
  split
  · simp
  split
  · split
    · split
      · rename_i g _ hf
        obtain ⟨q, hq, h3⟩ := few_nat hf
        rw [hq, Int.toNat_natCast]
        exact ⟨(locL_len _ _ q).trans (kdL_len _ _ q).symm, by have := locL_len x.a x.b q; show (locL x.a x.b q).length ≤ 1000; omega⟩
      · simp
    · simp
  split
  · split
    · split
      · rename_i g _ hf
        obtain ⟨q, hq, h3⟩ := few_nat hf
        rw [hq, Int.toNat_natCast]
        exact ⟨(locL_len _ _ q).trans (kdL_len _ _ q).symm, by have := locL_len x.a x.b q; show (locL x.a x.b q).length ≤ 1000; omega⟩
      · simp
    · simp
  split
  · simp
  split
  · rename_i l hl
    have := plainL_len hl
    simp only [List.length_take, List.length_cons, List.length_nil]
    omega
  · simp
theorem kindsS_neg {ns m : Nat} {fns : List Fn} {nats : List Int} {locs : List Int} {r : Int} {x : NI} (hn : numB x = true) : ∀ z ∈ (kindsS ns m fns nats locs r x).1, 0 ≤ z := by
  simp only [numB, byteB, Bool.and_eq_true, decide_eq_true_eq] at hn
  obtain ⟨ha, hb, hc⟩ := hn
  have hloc : ∀ n : Nat, n ≤ 3 → ∀ z ∈ locL x.a x.b n, 0 ≤ z := by
    intro n hn z hz
    simp only [locL, List.mem_cons, List.mem_map, List.mem_range] at hz
    rcases hz with rfl | ⟨i, hi, rfl⟩
    · omega
    · rw [IntWalk.i64_in _ (by omega)]; omega
  unfold kindsS
  split
  · simp; omega
  split
  · simp; omega
  split
  · split
    · split
      · rename_i g _ hf
        obtain ⟨q, hq, h3⟩ := few_nat hf
        exact hloc _ (by omega)
      · simp
    · simp
  split
  · split
    · split
      · rename_i g _ hf
        obtain ⟨q, hq, h3⟩ := few_nat hf
        exact hloc _ (by omega)
      · simp
    · simp
  split
  · simp
  split
  · intro z hz
    have := List.mem_of_mem_take hz
    simp at this
    omega
  · simp
/-- valid of a function of the program -/
theorem fn_any (S : Option Addr) (ns cs : Nat) (F : Option Addr) (nf cf : Nat) (N : Option Addr) (nn cn : Nat) (P : Prg) (fcs : List FC) (x : FC) (f : Fn) (w : World)
    (hP : Plain w) (hR : PrAt w S ns cs F nf cf N nn cn P fcs) (hk : P.ok) (hx : FnAt w x f) (hf : f.ok) :
    Calls Tryd.prog 30 #[prV S ns cs F nf cf N nn cn, fcV x] w fun e w' => e = .returned (.bool (fnB P f)) ∧ Below w.heap.size w w' := by
  have l1 := hx.locs.length (f := intCells) (fun _ => rfl) (by omega)
  have l2 := hx.ins.length insCells_len (by omega)
  have l3 := hR.shs.length hdCells_len (by omega)
  have l4 := hR.fns.length fcCells_len (by omega)
  have l5 := hR.nats.length (f := intCells) (fun _ => rfl) (by omega)
  have l6 := hR.each.1
  have h1 := hf.nl
  have h2 := hf.ni
  have h3 := hk.ns
  have h4 := hk.nf
  have h5 := hk.nn
  have key : ∀ y ∈ f.ins, ∀ wq, Below w.heap.size w wq → Calls Tryd.prog 50 #[prV S ns cs F nf cf N nn cn, fnV x.p x.A x.n x.c x.r x.B x.m x.e, insV y] wq fun e w' => e = .returned (.bool (suitB P f y)) ∧ Below wq.heap.size wq w' := by
    intro y hy wq hq
    have hl := kindsS_len P.shs.length f.ins.length P.fns P.nats f.locs f.r y
    have hneg := fun hn => kindsS_neg (ns := P.shs.length) (m := f.ins.length) (fns := P.fns) (nats := P.nats) (locs := f.locs) (r := f.r) (x := y) hn
    have hkk : ∀ wz, Below wq.heap.size wq wz → _ := fun wz hz => kinds_any S ns cs F nf cf N nn cn P fcs x.p x.A x.n x.c x.r x.B x.m x.e f.locs y wz (hP.below (keep_below hz hq)) (hR.below (keep_below hz hq)) (hx.locs.belowU (keep_below hz hq)) (hf.ins y hy) (by omega) (by omega) (by omega) (by omega)
    have hsu : suitB P f y = ((kindsS P.shs.length f.ins.length P.fns P.nats f.locs f.r y).2.2 && (numB y && suitF f.locs (kindsS P.shs.length f.ins.length P.fns P.nats f.locs f.r y).1 (kindsS P.shs.length f.ins.length P.fns P.nats f.locs f.r y).2.1)) := rfl
    rw [hsu]
    rw [← l3, ← l2, hx.r] at hkk
    generalize kindsS P.shs.length f.ins.length P.fns P.nats f.locs f.r y = K at hkk hl hneg
    obtain ⟨ls, ks, ok⟩ := K
    rw [← l3, ← l2, hx.r]
    exact suits_any S _ cs F nf cf N nn cn x.p x.A x.n x.c f.r x.B _ x.e y f.locs ls ks ok wq (hx.locs.belowU hq) hl.1 hl.2 (fun hn _ => hneg hn) hkk
  have h := valid_any S ns cs F nf cf N nn cn x.p x.A x.n x.c x.r x.B x.m x.e f.locs f.ins (suitB P f) w hx.locs hx.ins (by omega) (by omega) key
  rw [hx.p, hx.r] at h
  unfold fcV fnB
  rw [hx.p, hx.r]
  exact h
end Go.Proofs.YtnnchinpmnpfiaaDoor
/- Check of the program: the walk. -/
namespace Go.Proofs.YtnnchinpmnpfiaaDoor
open Go.ChangeShapes Go.WideShapes Go.RowKit Words

theorem checkE_no {P : Prg} {pw pg : Int} (h : checkB P pw pg = false) : checkE P pw pg = 16 := by unfold checkE; rw [h]; rfl
theorem checkE_yes {P : Prg} {pw pg : Int} (h : checkB P pw pg = true) : checkE P pw pg = 0 := by unfold checkE; rw [h]; rfl
set_option linter.unusedSimpArgs false in
set_option linter.unusedVariables false in
set_option maxRecDepth 100000 in
set_option maxHeartbeats 4000000 in
/-- the program's Check -/
theorem check_any (pw pg : Int) (S : Option Addr) (ns cs : Nat) (F : Option Addr) (nf cf : Nat) (N : Option Addr) (nn cn : Nat) (P : Prg) (fcs : List FC) (w : World) (hP : Plain w) (hR : PrAt w S ns cs F nf cf N nn cn P fcs) (hk : P.ok) :
    Calls Tryd.prog 8 #[prV S ns cs F nf cf N nn cn, confV pw pg] w fun e w' => e = .returned (.int .i64 (checkE P pw pg)) ∧ Below w.heap.size w w' := by
  have hB : Below w.heap.size w ((w.alloc (.cells #[.slice S ns cs, .slice F nf cf, .slice N nn cn] 37)).alloc (.cells #[.int .i64 pw, .int .i64 pg] 28)) := keep_alloc (keep_alloc (Below.refl _ _) _) _
  have X0 := (Blk.new w #[.slice S ns cs, .slice F nf cf, .slice N nn cn] 37).alloc (.cells #[.int .i64 pw, .int .i64 pg] 28)
  have C0 := Blk.newAt (w.alloc (.cells #[.slice S ns cs, .slice F nf cf, .slice N nn cn] 37)) #[.int .i64 pw, .int .i64 pg] 28 (w.heap.size + 1) (by simp)
  have l3 := hR.shs.length hdCells_len (by omega)
  have l4 := hR.fns.length fcCells_len (by omega)
  have l5 := hR.nats.length (f := intCells) (fun _ => rfl) (by omega)
  have l6 := hR.each.1
  have k3 := hk.ns
  have k4 := hk.nf
  have k5 := hk.nn
  by_cases h1 : nf < 1
  · have d1 : decide ((nf : Int) < 1) = true := decide_eq_true (by omega)
    have d1' : decide (nf < 1) = true := decide_eq_true h1
    have HV := Lib.hid (checkE_no (pw := pw) (pg := pg) (show checkB P pw pg = false from by unfold checkB; rw [decide_eq_false (show ¬ 1 ≤ P.fns.length by omega)]; rfl))
    clear l3 l4 l5 l6 k3 k4 k5 h1 C0
    go_enter Tryd.func8, Tryd.ntmps8
    go_wp2_with fail
    go_ret
    exact ⟨by rw [HV.out]; rfl, hB⟩
  have d1 : decide ((nf : Int) < 1) = false := decide_eq_false (by omega)
  have d1' : decide (nf < 1) = false := decide_eq_false h1
  by_cases h2 : 16 < nf
  · have d2 : decide ((16 : Int) < (nf : Int)) = true := decide_eq_true (by omega)
    have d2' : decide (16 < nf) = true := decide_eq_true h2
    have HV := Lib.hid (checkE_no (pw := pw) (pg := pg) (show checkB P pw pg = false from by unfold checkB; rw [decide_eq_false (show ¬ P.fns.length ≤ 16 by omega), Bool.false_and, Bool.and_false]))
    clear l3 l4 l5 l6 k3 k4 k5 h1 h2 C0
    go_enter Tryd.func8, Tryd.ntmps8
    go_wp2_with fail
    go_ret
    exact ⟨by rw [HV.out]; rfl, hB⟩
  have d2 : decide ((16 : Int) < (nf : Int)) = false := decide_eq_false (by omega)
  have d2' : decide (16 < nf) = false := decide_eq_false h2
  by_cases h3 : 16 < ns
  · have d3 : decide ((16 : Int) < (ns : Int)) = true := decide_eq_true (by omega)
    have d3' : decide (16 < ns) = true := decide_eq_true h3
    have HV := Lib.hid (checkE_no (pw := pw) (pg := pg) (show checkB P pw pg = false from by unfold checkB; rw [decide_eq_false (show ¬ P.shs.length ≤ 16 by omega), Bool.false_and, Bool.and_false, Bool.and_false]))
    clear l3 l4 l5 l6 k3 k4 k5 h1 h2 h3 C0
    go_enter Tryd.func8, Tryd.ntmps8
    go_wp2_with fail
    go_ret
    exact ⟨by rw [HV.out]; rfl, hB⟩
  have d3 : decide ((16 : Int) < (ns : Int)) = false := decide_eq_false (by omega)
  have d3' : decide (16 < ns) = false := decide_eq_false h3
  by_cases h4 : 16 < nn
  · have d4 : decide ((16 : Int) < (nn : Int)) = true := decide_eq_true (by omega)
    have d4' : decide (16 < nn) = true := decide_eq_true h4
    have HV := Lib.hid (checkE_no (pw := pw) (pg := pg) (show checkB P pw pg = false from by unfold checkB; rw [decide_eq_false (show ¬ P.nats.length ≤ 16 by omega), Bool.false_and, Bool.and_false, Bool.and_false, Bool.and_false]))
    clear l3 l4 l5 l6 k3 k4 k5 h1 h2 h3 h4 C0
    go_enter Tryd.func8, Tryd.ntmps8
    go_wp2_with fail
    go_ret
    exact ⟨by rw [HV.out]; rfl, hB⟩
  have d4 : decide ((16 : Int) < (nn : Int)) = false := decide_eq_false (by omega)
  have d4' : decide (16 < nn) = false := decide_eq_false h4
  have HE := Lib.hid (show checkB P pw pg = (P.shs.all (shB pw pg) && (P.nats.all fewB && (headB P && P.fns.all (fnB P)))) from by
    unfold checkB
    rw [decide_eq_true (show 1 ≤ P.fns.length by omega), decide_eq_true (show P.fns.length ≤ 16 by omega), decide_eq_true (show P.shs.length ≤ 16 by omega), decide_eq_true (show P.nats.length ≤ 16 by omega)]
    rfl)
  have HSH := Lib.hid (allH_any pw pg (w.heap.size + 1) S ns cs P.shs _ (hR.shs.belowU hB) C0 hk.shs (by omega))
  have hnf1 : 0 < nf := by omega
  have HNF := Lib.hid hnf1
  obtain ⟨bf, off, fc, rfl, hbb, hfc, hcl⟩ := hR.fns.elem fcCells_len (by omega) hnf1
  obtain ⟨f0, hf0⟩ : ∃ f, P.fns[0]? = some f := ⟨_, List.getElem?_eq_getElem (by omega)⟩
  have hat := hR.each.2 0 fc f0 hfc hf0
  have g0 := hcl 0 _ rfl
  have g1 := hcl 1 _ rfl
  have g2 := hcl 2 _ rfl
  have g3 := hcl 3 _ rfl
  rw [Nat.zero_mul, Nat.add_zero] at g0 g1 g2 g3
  obtain ⟨fp, fA, fn, fc', fr, fB, fm, fe⟩ := fc
  have HHD := Lib.hid (show headB P = (decide (fp = 0) && decide (fr = 1)) from by unfold headB; rw [hf0]; have e1 : fp = f0.p := hat.p; have e2 : fr = f0.r := hat.r; rw [e1, e2])
  have HL5 := Lib.hid (show nn ≤ 1000000 from by omega)
  have HL4 := Lib.hid (show nf ≤ 1000000 from by omega)
  dsimp only at g0 g1 g2 g3
  have hk0 : (0 : Int) < (nf : Int) := by omega
  have hkk : decide ((0 : Int) < (nf : Int)) = true := decide_eq_true hk0
  clear hfc hcl hat hf0 l3 l4 l5 l6 k3 k4 k5 h1 h2 h3 h4 C0
  go_enter Tryd.func8, Tryd.ntmps8
  go_wp2_with fail
  refine HSH.out.mono ?_
  clear HSH
  cases hsh : P.shs.all (shB pw pg) with
  | false =>
    have HV := Lib.hid (checkE_no (show checkB P pw pg = false from by rw [HE.out, hsh]; rfl))
    rintro e w2 ⟨rfl, hb2⟩
    clear g0 g1 g2 g3 hsh
    go_wp2_with fail
    go_ret
    exact ⟨by rw [HV.out]; rfl, keep_below hb2 hB⟩
  | true =>
    have HE2 := Lib.hid (show checkB P pw pg = (P.nats.all fewB && (headB P && P.fns.all (fnB P))) from by rw [HE.out, hsh]; rfl)
    clear hsh HE
    rintro e w2 ⟨rfl, hb2⟩
    have hB2 := keep_below hb2 hB
    have X2 := X0.below hb2
    obtain ⟨g, hg⟩ : ∃ g, w.heap.size = g := ⟨_, rfl⟩
    have HG := Lib.hid hg
    rw [hg] at X2 ⊢
    have x0 := X2.cell 0 _ rfl
    have x1 := X2.cell 1 _ rfl
    have x2 := X2.cell 2 _ rfl
    have HNA := Lib.hid (allF_any N nn cn P.nats w2 (hR.nats.belowU hB2) HL5.out)
    clear hg hb2 X0 hB
    go_wp2_with fail
    refine HNA.out.mono ?_
    clear HNA
    cases hna : P.nats.all fewB with
    | false =>
      have HV := Lib.hid (checkE_no (show checkB P pw pg = false from by rw [HE2.out, hna]; rfl))
      rintro e w3 ⟨rfl, hb3⟩
      clear g0 g1 g2 g3 hna x0 x1 x2
      go_wp2_with fail
      go_ret
      exact ⟨by rw [HV.out]; rfl, keep_below hb3 hB2⟩
    | true =>
      have HE3 := Lib.hid (show checkB P pw pg = (headB P && P.fns.all (fnB P)) from by rw [HE2.out, hna]; rfl)
      clear hna HE2
      rintro e w3 ⟨rfl, hb3⟩
      have hB3 := keep_below hb3 hB2
      have X3 := X2.below hb3
      clear x0 x1 x2 hb3 hB2 X2
      have x0 := X3.cell 0 _ rfl
      have x1 := X3.cell 1 _ rfl
      have x2 := X3.cell 2 _ rfl
      have f0 := keep_cell hB3 g0
      have f1 := keep_cell hB3 g1
      have f2 := keep_cell hB3 g2
      have f3 := keep_cell hB3 g3
      have hB4 := keep_alloc hB3 (.cells #[.int .i64 fp, .slice fA fn fc', .int .i64 fr, .slice fB fm fe] 49)
      have hb34 : Below w3.heap.size w3 (w3.alloc (.cells #[.int .i64 fp, .slice fA fn fc', .int .i64 fr, .slice fB fm fe] 49)) := keep_alloc (Below.refl _ _) _
      have X4 := X3.below hb34
      have y1 := X4.cell 1 _ rfl
      clear g0 g1 g2 g3 X3
      by_cases e0 : fp = 0
      · by_cases e1 : fr = 1
        · have t0 : (fp != 0) = false := by simp [e0]
          have t1 : (fr != 1) = false := by simp [e1]
          obtain ⟨sb, hsb⟩ := hR.each.lift (fnB P)
          have HLF := Lib.hid (show checkB P pw pg = fcs.all sb from by rw [HE3.out, HHD.out, e0, e1, all_pair hR.each.1 hsb]; rfl)
          have HAG := Lib.hid (allG_any g _ nf cf fcs sb _ (hR.fns.belowU hB4) (fun x hx wq hq => by
            obtain ⟨i, hi⟩ := List.mem_iff_getElem?.1 hx
            have hil : i < P.fns.length := by have := hR.each.1; have := (List.getElem?_eq_some_iff.1 hi).1; omega
            obtain ⟨f, hf⟩ : ∃ f, P.fns[i]? = some f := ⟨_, List.getElem?_eq_getElem hil⟩
            refine check3_any S ns cs _ nf cf N nn cn x g (sb x) wq (X4.below hq) (fun wz hz => ?_)
            have hqz := keep_below (keep_below hz hq) hB4
            rw [hsb i x f hi hf]
            exact fn_any S ns cs _ nf cf N nn cn P fcs x f wz (hP.below hqz) (hR.below hqz) hk ((hR.each.2 i x f hi hf).below hqz) (hk.fns f (List.mem_of_getElem? hf))) HL4.out)
          clear e0 e1 hsb
          go_wp2_with fail
          refine HAG.out.mono ?_
          clear HAG
          cases hal : fcs.all sb with
          | false =>
            have HV := Lib.hid (checkE_no (show checkB P pw pg = false from by rw [HLF.out, hal]))
            rintro e w5 ⟨rfl, hb5⟩
            clear f0 f1 f2 f3 x0 x1 x2 y1 hal
            go_wp2_with fail
            go_ret
            exact ⟨by rw [HV.out]; rfl, keep_below hb5 hB4⟩
          | true =>
            have HV := Lib.hid (checkE_yes (show checkB P pw pg = true from by rw [HLF.out, hal]))
            rintro e w5 ⟨rfl, hb5⟩
            clear f0 f1 f2 f3 x0 x1 x2 y1 hal
            go_wp2_with fail
            go_ret
            exact ⟨by rw [HV.out]; rfl, keep_below hb5 hB4⟩
        · have t0 : (fp != 0) = false := by simp [e0]
          have t1 : (fr != 1) = true := by simp [e1]
          have HV := Lib.hid (checkE_no (show checkB P pw pg = false from by rw [HE3.out, HHD.out, decide_eq_false e1, Bool.and_false, Bool.false_and]))
          clear e0 e1
          go_wp2_with fail
          go_ret
          exact ⟨by rw [HV.out]; rfl, hB4⟩
      · have t0 : (fp != 0) = true := by simp [e0]
        have HV := Lib.hid (checkE_no (show checkB P pw pg = false from by rw [HE3.out, HHD.out, decide_eq_false e0, Bool.false_and, Bool.false_and]))
        clear e0
        go_wp2_with fail
        go_ret
        exact ⟨by rw [HV.out]; rfl, hB4⟩
end Go.Proofs.YtnnchinpmnpfiaaDoor

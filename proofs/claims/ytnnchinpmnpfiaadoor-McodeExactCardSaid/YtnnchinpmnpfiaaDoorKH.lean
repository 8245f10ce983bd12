/- What native programs' makers want of ncode's texts: copies, PRINTED BY A PROGRAM (mk_mcopies.py). -/
import Derived.Test.YtnnchinpmnpfiaaDoorKB
import Derived.Test.YtnnchinpmnpfiaaDoorKA
namespace Go.Proofs.YtnnchinpmnpfiaaDoor
open Go.ChangeShapes Go.WideShapes Go.RowKit Words

theorem tyRIns : SlTy Tryd.prog 88 95 5 40 := SlTy.mk' (z := .agg #[.int .i64 0, .int .i64 0, .int .i64 0, .int .i64 0, .int .u64 0]) Tryd.underlying88 (by kernel_rfl) rfl (by omega)
def formedI (x : NI) : Bool := decide (1 ≤ x.op) && decide (x.op ≤ 17) && decide (0 ≤ x.a) && decide (x.a < 8) && decide (0 ≤ x.b) && decide (x.b ≤ 255) && decide (0 ≤ x.c) && decide (x.c < 8)
theorem formedI_iff (x : NI) : formedI x = true ↔ (1 ≤ x.op ∧ x.op ≤ 17) ∧ (0 ≤ x.a ∧ x.a < 8) ∧ (0 ≤ x.b ∧ x.b ≤ 255) ∧ 0 ≤ x.c ∧ x.c < 8 := by
  unfold formedI
  simp only [Bool.and_eq_true, decide_eq_true_eq]
  omega
/-- is a program well-formed? -/
def argsN (op : Int) : Int := if op = 7 ∨ op = 9 then 3 else if op = 1 ∨ op = 6 ∨ op = 8 ∨ op = 10 then 2 else if op < 1 ∨ 20 < op then 0 else 1
theorem argsN_range (op : Int) : 0 ≤ argsN op ∧ argsN op ≤ 3 := by
  unfold argsN
  split
  · omega
  · split
    · omega
    · split <;> omega
theorem rargs_any (op : Int) (w : World) : Calls Tryd.prog 59 #[.int .i64 op] w fun e w' => e = .returned (.int .i64 (argsN op)) ∧ w = w' := by
  by_cases t0 : op = 7
  · subst t0
    go_enter Tryd.func59, Tryd.ntmps59
    go_wp2
    go_ret
    exact ⟨rfl, rfl⟩
  have e0 : (op == (7 : Int)) = false := by simp [t0]
  by_cases t1 : op = 9
  · subst t1
    go_enter Tryd.func59, Tryd.ntmps59
    go_wp2
    go_ret
    exact ⟨rfl, rfl⟩
  have e1 : (op == (9 : Int)) = false := by simp [t1]
  by_cases t2 : op = 1
  · subst t2
    go_enter Tryd.func59, Tryd.ntmps59
    go_wp2
    go_ret
    exact ⟨rfl, rfl⟩
  have e2 : (op == (1 : Int)) = false := by simp [t2]
  by_cases t3 : op = 6
  · subst t3
    go_enter Tryd.func59, Tryd.ntmps59
    go_wp2
    go_ret
    exact ⟨rfl, rfl⟩
  have e3 : (op == (6 : Int)) = false := by simp [t3]
  by_cases t4 : op = 8
  · subst t4
    go_enter Tryd.func59, Tryd.ntmps59
    go_wp2
    go_ret
    exact ⟨rfl, rfl⟩
  have e4 : (op == (8 : Int)) = false := by simp [t4]
  by_cases t5 : op = 10
  · subst t5
    go_enter Tryd.func59, Tryd.ntmps59
    go_wp2
    go_ret
    exact ⟨rfl, rfl⟩
  have e5 : (op == (10 : Int)) = false := by simp [t5]
  by_cases t6 : op < 1
  · have HV := Lib.hid (show argsN op = 0 by unfold argsN; rw [if_neg (by omega), if_neg (by omega), if_pos (by omega)])
    go_enter Tryd.func59, Tryd.ntmps59
    go_wp2
    go_ret
    exact ⟨by rw [HV.out]; rfl, rfl⟩
  by_cases t7 : 20 < op
  · have HV := Lib.hid (show argsN op = 0 by unfold argsN; rw [if_neg (by omega), if_neg (by omega), if_pos (by omega)])
    go_enter Tryd.func59, Tryd.ntmps59
    go_wp2
    go_ret
    exact ⟨by rw [HV.out]; rfl, rfl⟩
  have HV := Lib.hid (show argsN op = 1 by unfold argsN; rw [if_neg (by omega), if_neg (by omega), if_neg (by omega)])
  have g1 : decide (1 ≤ op) = true := decide_eq_true (by omega)
  have g2 : decide (op ≤ 20) = true := decide_eq_true (by omega)
  go_enter Tryd.func59, Tryd.ntmps59
  go_wp2
  go_ret
  exact ⟨by rw [HV.out]; rfl, rfl⟩
end Go.Proofs.YtnnchinpmnpfiaaDoor
/- A COPY (mk_mcopies.py). The contract of nat; how worlds behind the tape are put together. -/
namespace Go.Proofs.YtnnchinpmnpfiaaDoor
open Go.RowKit Words

theorem only_below {w w1 w2 : World} {g : Nat} (h : w.grownBy w1 (some g)) (hb : Below w1.heap.size w1 w2) : w.grownBy w2 (some g) :=
  h.trans ⟨hb.os, hb.tape, hb.output, hb.size, fun i hi _ => hb.block i hi⟩
theorem only_refl_below {w w2 : World} (g : Nat) (hb : Below w.heap.size w w2) : w.grownBy w2 (some g) := only_below (World.grownBy.refl _ _) hb
/-- below the tape's block nothing has turned -/
theorem below_only {w w' : World} {g B : Nat} (h : w.grownBy w' (some g)) (hB : B ≤ g) (hg : g < w.heap.size) : Below B w w' :=
  ⟨h.os, h.tape, h.output, h.size, fun k hk => h.block k (by omega) (by simp; omega)⟩
theorem Reads.only {w w' : World} {B s n c g : Nat} {A : Option Addr} {xs : List Value} (hr : Reads w B s A n c xs) (h : w.grownBy w' (some g)) (hB : B ≤ w.heap.size) (hA : ∀ b off, A = some ⟨b, off, none⟩ → b ≠ g) : Reads w' B s A n c xs :=
  ⟨hr.len, hr.le, hr.cap, hr.none_, fun hn => by
    obtain ⟨b, off, e, hb, hc⟩ := hr.at_ hn
    exact ⟨b, off, e, hb, fun j u hu => (World.cell?_of_block (a := ⟨b, _, none⟩) (h.block b (by omega) (by have := hA b off e; simp; omega))).trans (hc j u hu)⟩⟩

set_option maxRecDepth 100000 in
set_option maxHeartbeats 2000000 in
theorem nat_any (op a b c k : Int) (w : World) :
    Calls Tryd.prog 60 #[.int .i64 op, .int .i64 a, .int .i64 b, .int .i64 c, .int .u64 k] w fun e w' => e = .returned (.agg #[.int .i64 op, .int .i64 a, .int .i64 b, .int .i64 c, .int .u64 k]) ∧ Below w.heap.size w w' := by
  go_enter Tryd.func60, Tryd.ntmps60
  go_wp2_with fail
  refine bodyPost_ret (v := .agg #[.int .i64 op, .int .i64 a, .int .i64 b, .int .i64 c, .int .u64 k]) (by simp [results, Tryd.results60, go_sem]) rfl ?_
  exact ⟨rfl, keep_alloc (Below.refl _ _) _⟩

/-- what is so of each instruction that is made -/
def R0 (nf : Nat) (x : NI) : Prop := formedI x = true ∧ (x.op = 14 → x.b < nf) ∧ (x.op = 13 → 1 ≤ x.b ∧ x.b ≤ 20) ∧ ((2 ≤ x.op ∧ x.op ≤ 8) ∨ x.op = 11 ∨ x.op = 12 → x.b ≤ 7)
theorem R0.mk' {nf : Nat} {x : NI} (ho : 1 ≤ x.op ∧ x.op ≤ 17) (ha : 0 ≤ x.a ∧ x.a < 8) (hb : 0 ≤ x.b ∧ x.b ≤ 20) (hc : 0 ≤ x.c ∧ x.c < 8) (h14 : x.op = 14 → x.b < nf) (h13 : x.op = 13 → 1 ≤ x.b) (h7 : ((2 ≤ x.op ∧ x.op ≤ 8) ∨ x.op = 11 ∨ x.op = 12) → x.b ≤ 7) : R0 nf x :=
  ⟨(formedI_iff x).2 ⟨ho, ha, ⟨hb.1, by omega⟩, hc⟩, h14, fun h => ⟨h13 h, hb.2⟩, h7⟩
end Go.Proofs.YtnnchinpmnpfiaaDoor
/- A COPY (mk_mcopies.py). The contract of idiom: some instructions that make sense together. PRINTED BY A PROGRAM (mk_idiom.py). -/
namespace Go.Proofs.YtnnchinpmnpfiaaDoor
open Go.RowKit Words

def RetIdiom (w : World) (g t nf : Nat) (e : Ending) (w' : World) : Prop :=
  ∃ (l : List NI) (A : Option Addr) (c t' : Nat), e = .returned (.slice A l.length c) ∧ Reads w' w'.heap.size 5 A l.length c (l.flatMap insCells) ∧ l.length ≤ 8 ∧ (∀ x ∈ l, R0 nf x) ∧ t' ≤ t + 10 ∧ TapeAt w' g t' ∧ w.grownBy w' (some g) ∧ (∀ b off, A = some ⟨b, off, none⟩ → w.heap.size ≤ b)
theorem idiom_end {w wl : World} {g t t' nf : Nat} (l : List NI) (cs : Array Value) (hl : l.length ≤ 8) (hcs : cs.toList = l.flatMap insCells) (hR : ∀ x ∈ l, R0 nf x) (ht : t' ≤ t + 10) (hT : TapeAt wl g t') (hG : w.grownBy wl (some g)) :
    RetIdiom w g t nf (.returned (.slice (some ⟨wl.heap.size, 0, none⟩) l.length l.length)) (wl.alloc (.cells cs 95)) := by
  have hr := Reads.freshAs wl cs 95 5 l.length (l.flatMap insCells) hcs (by have := congrArg List.length hcs; rw [flat_len insCells 5 insCells_len] at this; simpa using this) (by unfold maxLen; omega)
  refine ⟨l, _, _, t', rfl, hr, hl, hR, ht, hT.below (keep_alloc (Below.refl _ _) _), only_below hG (keep_alloc (Below.refl _ _) _), fun b off e => ?_⟩
  simp only [Option.some.injEq, Addr.mk.injEq] at e
  have := hG.size
  omega

set_option linter.unusedSimpArgs false in
set_option maxRecDepth 100000 in
set_option maxHeartbeats 4000000 in
theorem idiom_any (g t nf : Nat) (F : Option Addr) (cf : Nat) (fl : List Int) (at_ : Nat) (w : World) (hT : TapeAt w g t) (ht : t ≤ 900000) (hF : Reads w w.heap.size 1 F nf cf (fl.flatMap intCells)) (hFg : ∀ b off, F = some ⟨b, off, none⟩ → b ≠ g) (hnf : 0 < nf) (hnf2 : nf ≤ 16) (hfl : ∀ p ∈ fl, 0 ≤ p ∧ p ≤ 3) (hat : at_ ≤ 1000) :
    Calls Tryd.prog 58 #[.pointer (some ⟨g, 0, none⟩), .slice F nf cf, .int .i64 at_] w (RetIdiom w g t nf) := by
  have hgw := hT.lt
  have hG : w.grownBy w (some g) := World.grownBy.refl _ _
  go_enter Tryd.func58, Tryd.ntmps58
  go_wp2_with fail
  refine (next_any g _ 4 _ hT (by omega) (by omega)).mono ?_
  rintro e w1 ⟨a, rfl, ha0, ha1, t1, ht1, hT, hG1⟩
  have hG := hG.trans hG1
  have ha2 : a < 4 := by omega
  go_wp2_with fail
  refine (next_any g _ 3 _ hT (by omega) (by omega)).mono ?_
  rintro e w2 ⟨b, rfl, hb0, hb1, t2, ht2, hT, hG2⟩
  have hG := hG.trans hG2
  have hb2 : b < 3 := by omega
  go_wp2_with fail
  refine (next_any g _ 4 _ hT (by omega) (by omega)).mono ?_
  rintro e w3 ⟨k, rfl, hk0, hk1, t3, ht3, hT, hG3⟩
  have hG := hG.trans hG3
  have hk2 : k < 4 := by omega
  have wk : IntKind.u64.wrap k = k := IntWalk.u64_in _ (by omega)
  have wk1 : IntKind.u64.wrap (1 + k) = 1 + k := IntWalk.u64_in _ (by omega)
  clear ha1 hb1 hk1 hG1 hG2 hG3
  go_wp2_with fail
  refine (next_any g _ 11 _ hT (by omega) (by omega)).mono ?_
  rintro e w4 ⟨s, rfl, hs0, hs1, t4, ht4, hT, hG4⟩
  have hG := hG.trans hG4
  clear hG4
  have hs3 : s = 0 ∨ s = 1 ∨ s = 2 ∨ s = 3 ∨ s = 4 ∨ s = 5 ∨ s = 6 ∨ s = 7 ∨ s = 8 ∨ s = 9 ∨ s = 10 := by omega
  clear hs0 hs1
  rcases hs3 with rfl | rfl | rfl | rfl | rfl | rfl | rfl | rfl | rfl | rfl | rfl
  · go_wp2_with (go_at_call 60; refine (nat_any _ _ _ _ _ _).mono ?_; rintro e wn ⟨rfl, hbn⟩; have hT := hT.below hbn; have hG := only_below hG hbn; clear hbn)
    go_ret
    have u0 := U_ofInt (1 + k) (by omega) (by omega)
    have u9 : U 0#64 = 0 := rfl
    exact idiom_end [⟨1, a, 0, 0, BitVec.ofInt 64 (1 + k)⟩, ⟨13, 4 + b, 3, a, 0#64⟩] _ (by simp) (by simp [insCells, u9, u0]) (fun x hx => by
      simp only [List.mem_cons, List.not_mem_nil, or_false] at hx
      rcases hx with rfl | rfl <;> (refine R0.mk' ?_ ?_ ?_ ?_ ?_ ?_ ?_ <;> dsimp only <;> omega)) (by omega) hT hG
  · go_wp2_with (go_at_call 60; refine (nat_any _ _ _ _ _ _).mono ?_; rintro e wn ⟨rfl, hbn⟩; have hT := hT.below hbn; have hG := only_below hG hbn; clear hbn)
    go_ret
    have u0 := U_ofInt (1 + k) (by omega) (by omega)
    have u9 : U 0#64 = 0 := rfl
    exact idiom_end [⟨1, a, 0, 0, BitVec.ofInt 64 (1 + k)⟩, ⟨13, 4 + b, 3, a, 0#64⟩] _ (by simp) (by simp [insCells, u9, u0]) (fun x hx => by
      simp only [List.mem_cons, List.not_mem_nil, or_false] at hx
      rcases hx with rfl | rfl <;> (refine R0.mk' ?_ ?_ ?_ ?_ ?_ ?_ ?_ <;> dsimp only <;> omega)) (by omega) hT hG
  · go_wp2_with (go_at_call 60; refine (nat_any _ _ _ _ _ _).mono ?_; rintro e wn ⟨rfl, hbn⟩; have hT := hT.below hbn; have hG := only_below hG hbn; clear hbn)
    refine (next_any g _ 99 _ hT (by omega) (by omega)).mono ?_
    rintro e wn5 ⟨r, rfl, hr0, hr1, tn5, htn5, hT, hGn⟩
    have hG := hG.trans hGn
    have hr2 : r < 99 := by omega
    clear hr1 hGn
    have wr : IntKind.u64.wrap r = r := IntWalk.u64_in _ (by omega)
    go_wp2_with (go_at_call 60; refine (nat_any _ _ _ _ _ _).mono ?_; rintro e wn ⟨rfl, hbn⟩; have hT := hT.below hbn; have hG := only_below hG hbn; clear hbn)
    go_ret
    have u0 := U_ofInt (k) (by omega) (by omega)
    have u1 := U_ofInt (r) (by omega) (by omega)
    have u9 : U 0#64 = 0 := rfl
    exact idiom_end [⟨13, 4 + b, 19, a, 0#64⟩, ⟨1, 7, 0, 0, BitVec.ofInt 64 k⟩, ⟨3, 4 + b, 4 + b, 7, 0#64⟩, ⟨1, 7, 0, 0, BitVec.ofInt 64 r⟩, ⟨12, 4 + b, 7, 0, 0#64⟩, ⟨11, 7, 4 + b, 0, 0#64⟩, ⟨13, 4 + b, 20, a, 0#64⟩, ⟨15, 7, 0, 0, 0#64⟩] _ (by simp) (by simp [insCells, u9, u0, u1]) (fun x hx => by
      simp only [List.mem_cons, List.not_mem_nil, or_false] at hx
      rcases hx with rfl | rfl | rfl | rfl | rfl | rfl | rfl | rfl <;> (refine R0.mk' ?_ ?_ ?_ ?_ ?_ ?_ ?_ <;> dsimp only <;> omega)) (by omega) hT hG
  · go_wp2_with (go_at_call 60; refine (nat_any _ _ _ _ _ _).mono ?_; rintro e wn ⟨rfl, hbn⟩; have hT := hT.below hbn; have hG := only_below hG hbn; clear hbn)
    refine (next_any g _ 99 _ hT (by omega) (by omega)).mono ?_
    rintro e wn5 ⟨r, rfl, hr0, hr1, tn5, htn5, hT, hGn⟩
    have hG := hG.trans hGn
    have hr2 : r < 99 := by omega
    clear hr1 hGn
    have wr : IntKind.u64.wrap r = r := IntWalk.u64_in _ (by omega)
    go_wp2_with (go_at_call 60; refine (nat_any _ _ _ _ _ _).mono ?_; rintro e wn ⟨rfl, hbn⟩; have hT := hT.below hbn; have hG := only_below hG hbn; clear hbn)
    go_ret
    have u0 := U_ofInt (k) (by omega) (by omega)
    have u1 := U_ofInt (r) (by omega) (by omega)
    have u9 : U 0#64 = 0 := rfl
    exact idiom_end [⟨13, 4 + b, 19, a, 0#64⟩, ⟨1, 7, 0, 0, BitVec.ofInt 64 k⟩, ⟨3, 4 + b, 4 + b, 7, 0#64⟩, ⟨1, 7, 0, 0, BitVec.ofInt 64 r⟩, ⟨12, 4 + b, 7, 0, 0#64⟩, ⟨11, 7, 4 + b, 0, 0#64⟩, ⟨13, 4 + b, 20, a, 0#64⟩, ⟨15, 7, 0, 0, 0#64⟩] _ (by simp) (by simp [insCells, u9, u0, u1]) (fun x hx => by
      simp only [List.mem_cons, List.not_mem_nil, or_false] at hx
      rcases hx with rfl | rfl | rfl | rfl | rfl | rfl | rfl | rfl <;> (refine R0.mk' ?_ ?_ ?_ ?_ ?_ ?_ ?_ <;> dsimp only <;> omega)) (by omega) hT hG
  · go_wp2_with (go_at_call 60; refine (nat_any _ _ _ _ _ _).mono ?_; rintro e wn ⟨rfl, hbn⟩; have hT := hT.below hbn; have hG := only_below hG hbn; clear hbn)
    refine (next_any g _ 20 _ hT (by omega) (by omega)).mono ?_
    rintro e wn5 ⟨p, rfl, hp0, hp1, tn5, htn5, hT, hGn⟩
    have hG := hG.trans hGn
    have hp2 : p < 20 := by omega
    clear hp1 hGn
    go_wp2_with (go_at_call 60; refine (nat_any _ _ _ _ _ _).mono ?_; rintro e wn ⟨rfl, hbn⟩; have hT := hT.below hbn; have hG := only_below hG hbn; clear hbn)
    refine (next_any g _ 6 _ hT (by omega) (by omega)).mono ?_
    rintro e wn6 ⟨q, rfl, hq0, hq1, tn6, htn6, hT, hGn⟩
    have hG := hG.trans hGn
    have hq2 : q < 6 := by omega
    clear hq1 hGn
    go_wp2_with (go_at_call 60; refine (nat_any _ _ _ _ _ _).mono ?_; rintro e wn ⟨rfl, hbn⟩; have hT := hT.below hbn; have hG := only_below hG hbn; clear hbn)
    go_ret
    have u9 : U 0#64 = 0 := rfl
    exact idiom_end [⟨13, a, 1 + p, q, 0#64⟩] _ (by simp) (by simp [insCells, u9]) (fun x hx => by
      simp only [List.mem_cons, List.not_mem_nil, or_false] at hx
      rcases hx with rfl <;> (refine R0.mk' ?_ ?_ ?_ ?_ ?_ ?_ ?_ <;> dsimp only <;> omega)) (by omega) hT hG
  · go_wp2_with (go_at_call 60; refine (nat_any _ _ _ _ _ _).mono ?_; rintro e wn ⟨rfl, hbn⟩; have hT := hT.below hbn; have hG := only_below hG hbn; clear hbn)
    go_ret
    have u9 : U 0#64 = 0 := rfl
    exact idiom_end [⟨16, 4 + b, 0, 0, 0#64⟩, ⟨15, 4 + b, 0, 0, 0#64⟩] _ (by simp) (by simp [insCells, u9]) (fun x hx => by
      simp only [List.mem_cons, List.not_mem_nil, or_false] at hx
      rcases hx with rfl | rfl <;> (refine R0.mk' ?_ ?_ ?_ ?_ ?_ ?_ ?_ <;> dsimp only <;> omega)) (by omega) hT hG
  · go_wp2_with (go_at_call 60; refine (nat_any _ _ _ _ _ _).mono ?_; rintro e wn ⟨rfl, hbn⟩; have hT := hT.below hbn; have hG := only_below hG hbn; clear hbn)
    refine (next_any g _ 8 _ hT (by omega) (by omega)).mono ?_
    rintro e wn5 ⟨p, rfl, hp0, hp1, tn5, htn5, hT, hGn⟩
    have hG := hG.trans hGn
    have hp2 : p < 8 := by omega
    clear hp1 hGn
    go_wp2_with (go_at_call 60; refine (nat_any _ _ _ _ _ _).mono ?_; rintro e wn ⟨rfl, hbn⟩; have hT := hT.below hbn; have hG := only_below hG hbn; clear hbn)
    refine (next_any g _ 8 _ hT (by omega) (by omega)).mono ?_
    rintro e wn6 ⟨q, rfl, hq0, hq1, tn6, htn6, hT, hGn⟩
    have hG := hG.trans hGn
    have hq2 : q < 8 := by omega
    clear hq1 hGn
    go_wp2_with (go_at_call 60; refine (nat_any _ _ _ _ _ _).mono ?_; rintro e wn ⟨rfl, hbn⟩; have hT := hT.below hbn; have hG := only_below hG hbn; clear hbn)
    refine (next_any g _ 8 _ hT (by omega) (by omega)).mono ?_
    rintro e wn7 ⟨r, rfl, hr0, hr1, tn7, htn7, hT, hGn⟩
    have hG := hG.trans hGn
    have hr2 : r < 8 := by omega
    clear hr1 hGn
    go_wp2_with (go_at_call 60; refine (nat_any _ _ _ _ _ _).mono ?_; rintro e wn ⟨rfl, hbn⟩; have hT := hT.below hbn; have hG := only_below hG hbn; clear hbn)
    refine (next_any g _ 8 _ hT (by omega) (by omega)).mono ?_
    rintro e wn8 ⟨z, rfl, hz0, hz1, tn8, htn8, hT, hGn⟩
    have hG := hG.trans hGn
    have hz2 : z < 8 := by omega
    clear hz1 hGn
    go_wp2_with (go_at_call 60; refine (nat_any _ _ _ _ _ _).mono ?_; rintro e wn ⟨rfl, hbn⟩; have hT := hT.below hbn; have hG := only_below hG hbn; clear hbn)
    go_ret
    have u0 := U_ofInt (k) (by omega) (by omega)
    have u9 : U 0#64 = 0 := rfl
    exact idiom_end [⟨1 + p, q, r, z, BitVec.ofInt 64 k⟩] _ (by simp) (by simp [insCells, u9, u0]) (fun x hx => by
      simp only [List.mem_cons, List.not_mem_nil, or_false] at hx
      rcases hx with rfl <;> (refine R0.mk' ?_ ?_ ?_ ?_ ?_ ?_ ?_ <;> dsimp only <;> omega)) (by omega) hT hG
  · go_wp2_with (go_at_call 60; refine (nat_any _ _ _ _ _ _).mono ?_; rintro e wn ⟨rfl, hbn⟩; have hT := hT.below hbn; have hG := only_below hG hbn; clear hbn)
    refine (next_any g _ 8 _ hT (by omega) (by omega)).mono ?_
    rintro e wn5 ⟨p, rfl, hp0, hp1, tn5, htn5, hT, hGn⟩
    have hG := hG.trans hGn
    have hp2 : p < 8 := by omega
    clear hp1 hGn
    go_wp2_with (go_at_call 60; refine (nat_any _ _ _ _ _ _).mono ?_; rintro e wn ⟨rfl, hbn⟩; have hT := hT.below hbn; have hG := only_below hG hbn; clear hbn)
    refine (next_any g _ 4 _ hT (by omega) (by omega)).mono ?_
    rintro e wn6 ⟨q, rfl, hq0, hq1, tn6, htn6, hT, hGn⟩
    have hG := hG.trans hGn
    have hq2 : q < 4 := by omega
    clear hq1 hGn
    have wq : IntKind.u64.wrap ((at_ : Int) + 1 + q) = (at_ : Int) + 1 + q := IntWalk.u64_in _ (by omega)
    go_wp2_with (go_at_call 60; refine (nat_any _ _ _ _ _ _).mono ?_; rintro e wn ⟨rfl, hbn⟩; have hT := hT.below hbn; have hG := only_below hG hbn; clear hbn)
    go_ret
    have u0 := U_ofInt ((at_ : Int) + 1 + q) (by omega) (by omega)
    have u9 : U 0#64 = 0 := rfl
    exact idiom_end [⟨10, p, 0, 0, BitVec.ofInt 64 ((at_ : Int) + 1 + q)⟩] _ (by simp) (by simp [insCells, u9, u0]) (fun x hx => by
      simp only [List.mem_cons, List.not_mem_nil, or_false] at hx
      rcases hx with rfl <;> (refine R0.mk' ?_ ?_ ?_ ?_ ?_ ?_ ?_ <;> dsimp only <;> omega)) (by omega) hT hG
  · go_wp2_with (go_at_call 60; refine (nat_any _ _ _ _ _ _).mono ?_; rintro e wn ⟨rfl, hbn⟩; have hT := hT.below hbn; have hG := only_below hG hbn; clear hbn)
    refine (next_any g _ (nf : Int) _ hT (by omega) (by omega)).mono ?_
    rintro e wn5 ⟨f, rfl, hf0, hf1, tn5, htn5, hT, hGn⟩
    have hG := hG.trans hGn
    obtain ⟨fi, rfl⟩ := Int.eq_ofNat_of_zero_le hf0
    have hf2 : (fi : Int) < (nf : Int) := by omega
    clear hf1 hGn
    have hF5 := hF.only hG (Nat.le_refl _) hFg
    obtain ⟨bf, off, p, rfl, hbf, hp, hc⟩ := hF5.elem (fun _ => rfl) (by omega) (k := fi) (show fi < nf by omega)
    have d0 := hc 0 _ rfl
    rw [Nat.mul_one, Nat.add_zero] at d0
    have hp2 := hfl p (List.mem_of_getElem? hp)
    obtain ⟨hp0, hp1⟩ := hp2
    clear hc hp
    go_wp2_with (go_at_call 60; refine (nat_any _ _ _ _ _ _).mono ?_; rintro e wn ⟨rfl, hbn⟩; have hT := hT.below hbn; have hG := only_below hG hbn; clear hbn)
    refine (next_any g _ (9 - p) _ hT (by omega) (by omega)).mono ?_
    rintro e wn6 ⟨q, rfl, hq0, hq1, tn6, htn6, hT, hGn⟩
    have hG := hG.trans hGn
    have hq2 : q < 9 := by omega
    clear hq1 hGn
    go_wp2_with (go_at_call 60; refine (nat_any _ _ _ _ _ _).mono ?_; rintro e wn ⟨rfl, hbn⟩; have hT := hT.below hbn; have hG := only_below hG hbn; clear hbn)
    go_ret
    have u9 : U 0#64 = 0 := rfl
    exact idiom_end [⟨14, 4 + b, fi, q % 8, 0#64⟩] _ (by simp) (by simp [insCells, u9]) (fun x hx => by
      simp only [List.mem_cons, List.not_mem_nil, or_false] at hx
      rcases hx with rfl <;> (refine R0.mk' ?_ ?_ ?_ ?_ ?_ ?_ ?_ <;> dsimp only <;> omega)) (by omega) hT hG
  · go_wp2_with (go_at_call 60; refine (nat_any _ _ _ _ _ _).mono ?_; rintro e wn ⟨rfl, hbn⟩; have hT := hT.below hbn; have hG := only_below hG hbn; clear hbn)
    go_ret
    have u9 : U 0#64 = 0 := rfl
    exact idiom_end [⟨13, 4 + b, 13, a, 0#64⟩, ⟨2, a, 4 + b, 0, 0#64⟩] _ (by simp) (by simp [insCells, u9]) (fun x hx => by
      simp only [List.mem_cons, List.not_mem_nil, or_false] at hx
      rcases hx with rfl | rfl <;> (refine R0.mk' ?_ ?_ ?_ ?_ ?_ ?_ ?_ <;> dsimp only <;> omega)) (by omega) hT hG
  · go_wp2_with (go_at_call 60; refine (nat_any _ _ _ _ _ _).mono ?_; rintro e wn ⟨rfl, hbn⟩; have hT := hT.below hbn; have hG := only_below hG hbn; clear hbn)
    go_ret
    have u0 := U_ofInt (k) (by omega) (by omega)
    have u9 : U 0#64 = 0 := rfl
    exact idiom_end [⟨1, 7, 0, 0, BitVec.ofInt 64 k⟩, ⟨13, a, 6, 6, 0#64⟩, ⟨15, a, 0, 0, 0#64⟩] _ (by simp) (by simp [insCells, u9, u0]) (fun x hx => by
      simp only [List.mem_cons, List.not_mem_nil, or_false] at hx
      rcases hx with rfl | rfl | rfl <;> (refine R0.mk' ?_ ?_ ?_ ?_ ?_ ?_ ?_ <;> dsimp only <;> omega)) (by omega) hT hG
end Go.Proofs.YtnnchinpmnpfiaaDoor

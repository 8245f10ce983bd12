/- The reference's arguments of a call. -/
import Derived.Test.YtnnchinpmnpfiaaDoorKD
namespace Go.Proofs.YtnnchinpmnpfiaaDoor
open Go.ChangeShapes Go.WideShapes Go.RowKit Words

set_option linter.unusedSimpArgs false in
set_option linter.unusedVariables false in
set_option maxRecDepth 100000 in
set_option maxHeartbeats 4000000 in
theorem args_any (a b r : Int) (n : Nat) (gp : Int) (GA : Option Addr) (gn gc : Nat) (gr : Int) (GB : Option Addr) (gm gd : Nat) (gl : List Int) (w : World) (hG : Reads w w.heap.size 1 GA gn gc (gl.flatMap intCells)) (hn : n ≤ 3) :
    Calls Tryd.prog 74 #[.int .i64 a, .int .i64 b, .int .i64 r, .int .i64 n, fnV gp GA gn gc gr GB gm gd] w (RetK w (locL a b n) (kdL r (fun (i : Nat) => kindL gl (i : Int)) n) true) := by
  obtain ⟨ks, hks⟩ : ∃ ks : Nat → Int, (fun (i : Nat) => kindL gl (i : Int)) = ks := ⟨_, rfl⟩
  have HKS := Lib.hid hks
  rw [hks]
  clear hks
  have hB0 : Below w.heap.size w (w.alloc (.cells #[.int .i64 gp, .slice GA gn gc, .int .i64 gr, .slice GB gm gd] 44)) := keep_alloc (Below.refl _ _) _
  have X0 := Blk.new w #[.int .i64 gp, .slice GA gn gc, .int .i64 gr, .slice GB gm gd] 44
  obtain ⟨w2, hw2⟩ : ∃ w2, w.alloc (.cells #[.int .i64 gp, .slice GA gn gc, .int .i64 gr, .slice GB gm gd] 44) = w2 := ⟨_, rfl⟩
  go_enter Tryd.func74, Tryd.ntmps74
  go_upto_region 2 with fail
  rw [hw2] at hB0 X0
  have hG2 := hG.belowU hB0
  have hsz2 : w2.heap.size = w.heap.size + 1 := by rw [← hw2]; simp
  clear hw2 hG
  obtain ⟨w3, hw3⟩ : ∃ w3, (w2.alloc (.cells #[.int .i64 a] 3)).alloc (.cells #[.int .i64 r] 3) = w3 := ⟨_, rfl⟩
  have O1 := own_keep (World.ownsRow_lit (e := 3) (size := 1) (base := w2.heap.size) w2 #[.int .i64 a] 1 (Nat.le_refl _) (by decide) rfl) (keep_alloc (Below.refl _ _) (.cells #[.int .i64 r] 3))
  have O2 : ((w2.alloc (.cells #[.int .i64 a] 3)).alloc (.cells #[.int .i64 r] 3)).ownsRow w2.heap.size 3 1 (.slice (some ⟨w2.heap.size + 1, 0, none⟩) 1 1) 1 ((kdL r ks 0).flatMap intCells) := own_of_blk (cs := #[.int .i64 r]) (Blk.newAt (w2.alloc (.cells #[.int .i64 a] 3)) #[.int .i64 r] 3 (w2.heap.size + 1) (by simp)) (by omega) (by decide) rfl
  have hB3 : Below w2.heap.size w2 ((w2.alloc (.cells #[.int .i64 a] 3)).alloc (.cells #[.int .i64 r] 3)) := keep_alloc (keep_alloc (Below.refl _ _) _) _
  rw [hw3] at O1 O2 hB3 ⊢
  have hs3 : w3.heap.size = w2.heap.size + 2 := by rw [← hw3]; simp
  clear hw3
  obtain ⟨base, hbase⟩ : ∃ base, w2.heap.size = base := ⟨_, rfl⟩
  rw [hbase] at O1 O2 hB3 hs3 ⊢
  have HBS := Lib.hid hbase
  have g9 : w.heap.size < base := by omega
  clear hbase hsz2
  go_wp2_with fail
  go_loopw [13, 14, 15] (fun l kd x wq => ∃ (i : Nat), i ≤ n ∧ x = .int .i64 i ∧ wq.ownsRow base 3 1 l (i + 1) ((locL a b i).flatMap intCells) ∧ wq.ownsRow base 3 1 kd (i + 1) ((kdL r ks i).flatMap intCells) ∧ ApartV l kd ∧ Below base w2 wq ∧ w3.heap.size ≤ wq.heap.size) (fun _ _ x _ => n - (intOf x).toNat)
  case atStart => exact ⟨0, Nat.zero_le _, rfl, O1, O2, Or.inr (by simp [Value.ownBlock]), hB3, Nat.le_refl _⟩
  case round =>
    obtain ⟨i, hi, rfl, o1, o2, hap, hb, hsz⟩ := hrel
    by_cases hlt : i < n
    · have hd : decide ((i : Int) < (n : Int)) = true := decide_eq_true (by omega)
      have hd2 : decide (i < n) = true := decide_eq_true hlt
      have hw : IntKind.i64.wrap ((i : Int) + 1) = (i : Int) + 1 := IntWalk.i64_in _ (by omega)
      obtain ⟨bi, hbi⟩ : ∃ bi, IntKind.i64.wrap (b + (i : Int)) = bi := ⟨_, rfl⟩
      have HBI := Lib.hid hbi
      obtain ⟨ki, hki⟩ : ∃ ki, kindL gl (i : Int) = ki := ⟨_, rfl⟩
      have HKI := Lib.hid hki
      have HLT := Lib.hid hlt
      have hbU : ∀ u, Below base wr u → Below w2.heap.size w2 u := fun u hu => by rw [HBS.out]; exact hb.trans hu
      have HK := Lib.hid (show ∀ u, Below base wr u → Calls Tryd.prog 68 #[fnV gp GA gn gc gr GB gm gd, .int .i64 i] u fun e w' => e = .returned (.int .i64 ki) ∧ Below u.heap.size u w' from fun u hu => by
        rw [← HKI.out]
        exact rkind_any gp GA gn gc gr GB gm gd gl i u (hG2.belowU (hbU u hu)))
      have Z0 : ∀ u, Below base wr u → u.cell? ⟨w.heap.size, 0, none⟩ = some (.int .i64 gp) := fun u hu => (X0.below (hbU u hu)).cell 0 _ rfl
      have Z1 : ∀ u, Below base wr u → u.cell? ⟨w.heap.size, 1, none⟩ = some (.slice GA gn gc) := fun u hu => (X0.below (hbU u hu)).cell 1 _ rfl
      have Z2 : ∀ u, Below base wr u → u.cell? ⟨w.heap.size, 2, none⟩ = some (.int .i64 gr) := fun u hu => (X0.below (hbU u hu)).cell 2 _ rfl
      have Z3 : ∀ u, Below base wr u → u.cell? ⟨w.heap.size, 3, none⟩ = some (.slice GB gm gd) := fun u hu => (X0.below (hbU u hu)).cell 3 _ rfl
      have q1 : i + 1 + 1 ≤ maxLen := by unfold maxLen; omega
      have q2 : (i + 1 + 1) * 8 ≤ 140737488355328 := by omega
      have hbz : base ≤ wr.heap.size := by omega
      have N1 := Reads.freshAs wr.drew #[.int .i64 bi] 3 1 1 [.int .i64 bi] rfl rfl (by decide)
      have O1' : (wr.drew.alloc (.cells #[.int .i64 bi] 3)).ownsRow base _ _ _ _ _ := own_keep o1 ((Below.refl wr.heap.size wr).drew.alloc (Nat.le_refl _) _)
      have O2' : (wr.drew.alloc (.cells #[.int .i64 bi] 3)).ownsRow base _ _ _ _ _ := own_keep o2 ((Below.refl wr.heap.size wr).drew.alloc (Nat.le_refl _) _)
      clear hki hlt o1 o2
      go_upto_region 5 with fail
      go_region_held3 (fun w' => Below base wr w') (first | assumption | exact (Below.refl _ _).drew | exact Below.alloc (by first | assumption | exact (Below.refl _ _).drew) (by first | omega | (simp; omega)) _) (first
        | (refine step_appB rfl _ _ _ (by rfl) tyInts (by rfl) O1' (by rfl) N1 (by simp [Value.oneCell']) q1 q2 (by simp; omega) ?_; intro v5 w5 o5 hg5 hb5; have hbw5 := below_ownN O1' hg5 (Nat.le_refl _) (by simp; omega); obtain ⟨O5, hap5⟩ := hap.app O2' hg5 hb5; obtain ⟨A5, c5, rfl, -⟩ := Reads.own o5; have hs5 : wr.heap.size + 1 ≤ w5.heap.size := (by have := hbw5.size; simp at this; exact this); have hS5 : Below base wr w5 := ((Below.refl base wr).drew.alloc (by simp; omega) _).trans hbw5; clear hg5 hb5 O1' O2' N1)
        | (go_at_call 68; refine (HK.out _ hS5).mono ?_; rintro e w6 ⟨rfl, hb6⟩; have O6 := own_keep O5 (hb6.alloc (Nat.le_trans (Nat.le_refl _) hb6.size) (.cells #[.int .i64 ki] 3)); have o6 := own_keep o5 (hb6.alloc (Nat.le_trans (Nat.le_refl _) hb6.size) (.cells #[.int .i64 ki] 3)); have hs6 : wr.heap.size + 1 ≤ w6.heap.size := Nat.le_trans hs5 hb6.size; have hS6 : Below base wr w6 := hS5.trans (hb6.mono (by omega)); have N2 := Reads.freshAs w6 #[.int .i64 ki] 3 1 1 [.int .i64 ki] rfl rfl (by decide); clear o5 O5 hb6)
        | (refine step_appB rfl _ _ _ (by rfl) tyInts (by rfl) O6 (by rfl) N2 (by simp [Value.oneCell']) q1 q2 (by simp; omega) ?_; intro v7 w7 o7 hg7 hb7; have hbw7 := below_ownN O6 hg7 (Nat.le_refl _) (by simp; omega); obtain ⟨O7, hap7⟩ := hap5.symm.app o6 hg7 hb7; obtain ⟨A7, c7, rfl, -⟩ := Reads.own o7; have hs7 : w6.heap.size + 1 ≤ w7.heap.size := (by have := hbw7.size; simp at this; exact this); have hS7 : Below base wr w7 := (hS6.alloc (by omega) _).trans hbw7; clear hg7 hb7 O6 o6 N2))
      go_wp2_with fail
      go_roundw
      case rel =>
        have hk2 : ks i = ki := by rw [← HKS.out]; exact HKI.out
        refine ⟨i + 1, by have := HLT.out; omega, by go_num, ?_, ?_, hap7.symm, hb.trans hS7, by omega⟩
        · rw [locL_succ, HBI.out]; exact O7
        · rw [kdL_succ, hk2]; exact o7
      case measure => have := HLT.out; simp [intOf]; omega
    · have hin : i = n := by omega
      subst hin
      have hd : decide ((i : Int) < (i : Int)) = false := by simp
      have hd2 : decide (i < i) = false := by simp
      clear hlt
      go_wp2_with fail
      obtain ⟨A1, c1, rfl, r1⟩ := Reads.own o1
      obtain ⟨A2, c2, rfl, r2⟩ := Reads.own o2
      refine bodyPost_ret (v := .tuple #[.slice A1 (i + 1) c1, .slice A2 (i + 1) c2, .bool true]) (by simp [results, Tryd.results74]) rfl ?_
      exact ⟨A1, c1, A2, c2, by rw [locL_len, kdL_len], by rw [locL_len]; exact r1, by rw [kdL_len]; exact r2, hB0.trans (hb.mono (by omega))⟩
end Go.Proofs.YtnnchinpmnpfiaaDoor
/- The reference's shifted. -/
namespace Go.Proofs.YtnnchinpmnpfiaaDoor
open Go.ChangeShapes Go.WideShapes Go.RowKit Words

def shiftL (locs : List Int) (b : Int) (n : Nat) : List Int := (List.range n).map fun (i : Nat) => kindL locs (IntKind.i64.wrap (b + (i : Int)))
theorem shiftL_succ (locs : List Int) (b : Int) (n : Nat) : (shiftL locs b (n + 1)).flatMap intCells = (shiftL locs b n).flatMap intCells ++ [.int .i64 (kindL locs (IntKind.i64.wrap (b + (n : Int))))] := by
  rw [flat_ints, flat_ints]; simp [shiftL, List.range_succ]
theorem shiftL_len (locs : List Int) (b : Int) (n : Nat) : (shiftL locs b n).length = n := by simp [shiftL]
set_option linter.unusedSimpArgs false in
set_option linter.unusedVariables false in
set_option maxRecDepth 100000 in
set_option maxHeartbeats 4000000 in
theorem shifted_any (b : Int) (gp : Int) (GA : Option Addr) (gn gc : Nat) (gr : Int) (GB : Option Addr) (gm gd : Nat) (gl : List Int) (w : World) (hG : Reads w w.heap.size 1 GA gn gc (gl.flatMap intCells)) :
    Calls Tryd.prog 75 #[fnV gp GA gn gc gr GB gm gd, .int .i64 b] w (RetInts w (shiftL gl b 3)) := by
  have hB0 : Below w.heap.size w (w.alloc (.cells #[.int .i64 gp, .slice GA gn gc, .int .i64 gr, .slice GB gm gd] 44)) := keep_alloc (Below.refl _ _) _
  have X0 := Blk.new w #[.int .i64 gp, .slice GA gn gc, .int .i64 gr, .slice GB gm gd] 44
  go_enter Tryd.func75, Tryd.ntmps75
  go_upto_region 2 with fail
  obtain ⟨w2, hw2⟩ : ∃ w2, w.alloc (.cells #[.int .i64 gp, .slice GA gn gc, .int .i64 gr, .slice GB gm gd] 44) = w2 := ⟨_, rfl⟩
  rw [hw2] at hB0 X0 ⊢
  have hG2 := hG.belowU hB0
  have hsz2 : w2.heap.size = w.heap.size + 1 := by rw [← hw2]; simp
  clear hw2 hG
  obtain ⟨g, hg⟩ : ∃ g, w.heap.size = g := ⟨_, rfl⟩
  have HG := Lib.hid hg
  rw [hg] at X0 hsz2 ⊢
  obtain ⟨base, hbase⟩ : ∃ base, w2.heap.size = base := ⟨_, rfl⟩
  have HBS := Lib.hid hbase
  have g9 : g < base := by omega
  clear hg hsz2
  go_wp2_with fail
  go_loopw [5, 6] (fun l x wq => ∃ (i : Nat), i ≤ 3 ∧ x = .int .i64 i ∧ wq.ownsRow base 3 1 l i ((shiftL gl b i).flatMap intCells) ∧ Below base w2 wq) (fun _ x _ => 3 - (intOf x).toNat)
  case atStart => exact ⟨0, Nat.zero_le _, rfl, World.ownsRow_nil _ _ _ _, Below.refl _ _⟩
  case round =>
    obtain ⟨i, hi, rfl, o1, hb⟩ := hrel
    have hbU : Below w2.heap.size w2 wr := by rw [HBS.out]; exact hb
    have hsz : base ≤ wr.heap.size := by have := hb.size; omega
    by_cases hlt : i < 3
    · have hd : decide ((i : Int) < 3) = true := decide_eq_true (by omega)
      have hd2 : decide (i < 3) = true := decide_eq_true hlt
      have hw : IntKind.i64.wrap ((i : Int) + 1) = (i : Int) + 1 := IntWalk.i64_in _ (by omega)
      obtain ⟨bi, hbi⟩ : ∃ bi, IntKind.i64.wrap (b + (i : Int)) = bi := ⟨_, rfl⟩
      obtain ⟨ki, hki⟩ : ∃ ki, kindL gl bi = ki := ⟨_, rfl⟩
      have HK := Lib.hid (rkind_any gp GA gn gc gr GB gm gd gl bi wr (hG2.belowU hbU))
      rw [hki] at HK
      have HBI := Lib.hid hbi
      have HKI := Lib.hid hki
      have HLT := Lib.hid hlt
      have Z := X0.below hbU
      have z0 := Z.cell 0 _ rfl
      have z1 := Z.cell 1 _ rfl
      have z2 := Z.cell 2 _ rfl
      have z3 := Z.cell 3 _ rfl
      have q1 : i + 1 ≤ maxLen := by unfold maxLen; omega
      have q2 : (i + 1) * 8 ≤ 140737488355328 := by omega
      clear hki hlt hbase
      go_wp2_with fail
      refine HK.out.mono ?_
      clear HK z0 z1 z2 z3
      rintro e w4 ⟨rfl, hb4⟩
      have hsz4 := Nat.le_trans hsz hb4.size
      have O1' := own_keep o1 (hb4.alloc hb4.size (.cells #[.int .i64 ki] 3))
      have N1 := Reads.freshAs w4 #[.int .i64 ki] 3 1 1 [.int .i64 ki] rfl rfl (by decide)
      have hbB := hb.trans (hb4.mono hsz)
      clear hb4 hbU o1
      go_wp2_with (at_builtin; refine wpList_appB rfl _ _ _ rfl tyInts rfl O1' rfl N1 (by simp [Value.oneCell']) q1 q2 (by simp; omega) ?_; intro v5 w5 o5 hg5 hb5; have hbw5 := below_ownN O1' hg5 (Nat.le_refl _) (by simp; omega); obtain ⟨A5, c5, rfl, -⟩ := Reads.own o5; clear hg5 hb5 O1' N1)
      go_roundw
      case rel =>
        refine ⟨i + 1, by have := HLT.out; omega, by go_num, ?_, hbB.trans (keep_allocN hsz4 hbw5)⟩
        rw [shiftL_succ, HBI.out, HKI.out]; exact o5
      case measure => have := HLT.out; simp [intOf]; omega
    · have hin : i = 3 := by omega
      subst hin
      clear hlt hbase
      go_wp2_with fail
      obtain ⟨A1, c1, rfl, r1⟩ := Reads.own o1
      go_ret
      exact ⟨A1, c1, by rw [shiftL_len]; rfl, by rw [shiftL_len]; exact r1, hB0.trans (hb.mono (by have := HG.out; omega))⟩
end Go.Proofs.YtnnchinpmnpfiaaDoor
/- The reference's Kinds of the instructions that call nothing. PRINTED BY A PROGRAM (mk_m28.py). -/
namespace Go.Proofs.YtnnchinpmnpfiaaDoor
open Go.ChangeShapes Go.WideShapes Go.RowKit Words

set_option linter.unusedSimpArgs false in
set_option linter.unusedVariables false in
set_option maxRecDepth 100000 in
set_option maxHeartbeats 4000000 in
theorem rk_1 (S : Option Addr) (ns cs : Nat) (F : Option Addr) (nf cf : Nat) (N : Option Addr) (nn cn : Nat) (p : Int) (A : Option Addr) (n c : Nat) (r : Int) (B : Option Addr) (m d : Nat) (a b c' : Int) (k : BitVec 64) (w : World) :
    Calls Tryd.prog 67 #[prV S ns cs F nf cf N nn cn, fnV p A n c r B m d, insV ⟨1, a, b, c', k⟩] w (RetK w [a] [1] true) := by
  have hB0 : Below w.heap.size w (((w.alloc (.cells #[.slice S ns cs, .slice F nf cf, .slice N nn cn] 26)).alloc (.cells #[.int .i64 p, .slice A n c, .int .i64 r, .slice B m d] 44)).alloc (.cells #[.int .i64 1, .int .i64 a, .int .i64 b, .int .i64 c', .int .u64 (U k)] 55)) := keep_alloc (keep_alloc (keep_alloc (Below.refl _ _) _) _) _
  go_enter Tryd.func67, Tryd.ntmps67
  go_wp2_with fail
  go_quiet (fail)
  go_wp2_with fail
  refine bodyPost_ret (v := .tuple #[.slice (some ⟨w.heap.size + 1 + 1 + 1, 0, none⟩) 1 1, .slice (some ⟨w.heap.size + 1 + 1 + 1 + 1, 0, none⟩) 1 1, .bool true]) (by simp [results, Tryd.results67]) rfl ?_
  exact ⟨_, _, _, _, rfl, (Reads.freshAt _ #[.int .i64 a] 3 1 1 (([a] : List Int).flatMap intCells) (w.heap.size + 1 + 1 + 1) (by simp) rfl rfl (by decide)).belowU (keep_alloc (Below.refl _ _) _), Reads.freshAt _ #[.int .i64 1] 3 1 1 (([1] : List Int).flatMap intCells) (w.heap.size + 1 + 1 + 1 + 1) (by simp) rfl rfl (by decide), keep_alloc (keep_alloc (below_drewN hB0 _) _) _⟩
set_option linter.unusedSimpArgs false in
set_option linter.unusedVariables false in
set_option maxRecDepth 100000 in
set_option maxHeartbeats 4000000 in
theorem rk_23 (S : Option Addr) (ns cs : Nat) (F : Option Addr) (nf cf : Nat) (N : Option Addr) (nn cn : Nat) (p : Int) (A : Option Addr) (n c : Nat) (r : Int) (B : Option Addr) (m d : Nat) (a b c' : Int) (k : BitVec 64) (w : World) :
    Calls Tryd.prog 67 #[prV S ns cs F nf cf N nn cn, fnV p A n c r B m d, insV ⟨23, a, b, c', k⟩] w (RetK w [a] [1] true) := by
  have hB0 : Below w.heap.size w (((w.alloc (.cells #[.slice S ns cs, .slice F nf cf, .slice N nn cn] 26)).alloc (.cells #[.int .i64 p, .slice A n c, .int .i64 r, .slice B m d] 44)).alloc (.cells #[.int .i64 23, .int .i64 a, .int .i64 b, .int .i64 c', .int .u64 (U k)] 55)) := keep_alloc (keep_alloc (keep_alloc (Below.refl _ _) _) _) _
  go_enter Tryd.func67, Tryd.ntmps67
  go_wp2_with fail
  go_quiet (fail)
  go_wp2_with fail
  refine bodyPost_ret (v := .tuple #[.slice (some ⟨w.heap.size + 1 + 1 + 1, 0, none⟩) 1 1, .slice (some ⟨w.heap.size + 1 + 1 + 1 + 1, 0, none⟩) 1 1, .bool true]) (by simp [results, Tryd.results67]) rfl ?_
  exact ⟨_, _, _, _, rfl, (Reads.freshAt _ #[.int .i64 a] 3 1 1 (([a] : List Int).flatMap intCells) (w.heap.size + 1 + 1 + 1) (by simp) rfl rfl (by decide)).belowU (keep_alloc (Below.refl _ _) _), Reads.freshAt _ #[.int .i64 1] 3 1 1 (([1] : List Int).flatMap intCells) (w.heap.size + 1 + 1 + 1 + 1) (by simp) rfl rfl (by decide), keep_alloc (keep_alloc (below_drewN hB0 _) _) _⟩
set_option linter.unusedSimpArgs false in
set_option linter.unusedVariables false in
set_option maxRecDepth 100000 in
set_option maxHeartbeats 4000000 in
theorem rk_24 (S : Option Addr) (ns cs : Nat) (F : Option Addr) (nf cf : Nat) (N : Option Addr) (nn cn : Nat) (p : Int) (A : Option Addr) (n c : Nat) (r : Int) (B : Option Addr) (m d : Nat) (a b c' : Int) (k : BitVec 64) (w : World) :
    Calls Tryd.prog 67 #[prV S ns cs F nf cf N nn cn, fnV p A n c r B m d, insV ⟨24, a, b, c', k⟩] w (RetK w [a] [1] true) := by
  have hB0 : Below w.heap.size w (((w.alloc (.cells #[.slice S ns cs, .slice F nf cf, .slice N nn cn] 26)).alloc (.cells #[.int .i64 p, .slice A n c, .int .i64 r, .slice B m d] 44)).alloc (.cells #[.int .i64 24, .int .i64 a, .int .i64 b, .int .i64 c', .int .u64 (U k)] 55)) := keep_alloc (keep_alloc (keep_alloc (Below.refl _ _) _) _) _
  go_enter Tryd.func67, Tryd.ntmps67
  go_wp2_with fail
  go_quiet (fail)
  go_wp2_with fail
  refine bodyPost_ret (v := .tuple #[.slice (some ⟨w.heap.size + 1 + 1 + 1, 0, none⟩) 1 1, .slice (some ⟨w.heap.size + 1 + 1 + 1 + 1, 0, none⟩) 1 1, .bool true]) (by simp [results, Tryd.results67]) rfl ?_
  exact ⟨_, _, _, _, rfl, (Reads.freshAt _ #[.int .i64 a] 3 1 1 (([a] : List Int).flatMap intCells) (w.heap.size + 1 + 1 + 1) (by simp) rfl rfl (by decide)).belowU (keep_alloc (Below.refl _ _) _), Reads.freshAt _ #[.int .i64 1] 3 1 1 (([1] : List Int).flatMap intCells) (w.heap.size + 1 + 1 + 1 + 1) (by simp) rfl rfl (by decide), keep_alloc (keep_alloc (below_drewN hB0 _) _) _⟩
set_option linter.unusedSimpArgs false in
set_option linter.unusedVariables false in
set_option maxRecDepth 100000 in
set_option maxHeartbeats 4000000 in
theorem rk_3 (S : Option Addr) (ns cs : Nat) (F : Option Addr) (nf cf : Nat) (N : Option Addr) (nn cn : Nat) (p : Int) (A : Option Addr) (n c : Nat) (r : Int) (B : Option Addr) (m d : Nat) (a b c' : Int) (k : BitVec 64) (w : World) :
    Calls Tryd.prog 67 #[prV S ns cs F nf cf N nn cn, fnV p A n c r B m d, insV ⟨3, a, b, c', k⟩] w (RetK w [a] [2] true) := by
  have hB0 : Below w.heap.size w (((w.alloc (.cells #[.slice S ns cs, .slice F nf cf, .slice N nn cn] 26)).alloc (.cells #[.int .i64 p, .slice A n c, .int .i64 r, .slice B m d] 44)).alloc (.cells #[.int .i64 3, .int .i64 a, .int .i64 b, .int .i64 c', .int .u64 (U k)] 55)) := keep_alloc (keep_alloc (keep_alloc (Below.refl _ _) _) _) _
  go_enter Tryd.func67, Tryd.ntmps67
  go_wp2_with fail
  go_quiet (fail)
  go_wp2_with fail
  refine bodyPost_ret (v := .tuple #[.slice (some ⟨w.heap.size + 1 + 1 + 1, 0, none⟩) 1 1, .slice (some ⟨w.heap.size + 1 + 1 + 1 + 1, 0, none⟩) 1 1, .bool true]) (by simp [results, Tryd.results67]) rfl ?_
  exact ⟨_, _, _, _, rfl, (Reads.freshAt _ #[.int .i64 a] 3 1 1 (([a] : List Int).flatMap intCells) (w.heap.size + 1 + 1 + 1) (by simp) rfl rfl (by decide)).belowU (keep_alloc (Below.refl _ _) _), Reads.freshAt _ #[.int .i64 2] 3 1 1 (([2] : List Int).flatMap intCells) (w.heap.size + 1 + 1 + 1 + 1) (by simp) rfl rfl (by decide), keep_alloc (keep_alloc (below_drewN hB0 _) _) _⟩
set_option linter.unusedSimpArgs false in
set_option linter.unusedVariables false in
set_option maxRecDepth 100000 in
set_option maxHeartbeats 4000000 in
theorem rk_4 (S : Option Addr) (ns cs : Nat) (F : Option Addr) (nf cf : Nat) (N : Option Addr) (nn cn : Nat) (p : Int) (A : Option Addr) (n c : Nat) (r : Int) (B : Option Addr) (m d : Nat) (a b c' : Int) (k : BitVec 64) (w : World) :
    Calls Tryd.prog 67 #[prV S ns cs F nf cf N nn cn, fnV p A n c r B m d, insV ⟨4, a, b, c', k⟩] w (RetK w [a, b, c'] [1, 1, 1] true) := by
  have hB0 : Below w.heap.size w (((w.alloc (.cells #[.slice S ns cs, .slice F nf cf, .slice N nn cn] 26)).alloc (.cells #[.int .i64 p, .slice A n c, .int .i64 r, .slice B m d] 44)).alloc (.cells #[.int .i64 4, .int .i64 a, .int .i64 b, .int .i64 c', .int .u64 (U k)] 55)) := keep_alloc (keep_alloc (keep_alloc (Below.refl _ _) _) _) _
  go_enter Tryd.func67, Tryd.ntmps67
  go_wp2_with fail
  go_quiet (fail)
  go_wp2_with fail
  refine bodyPost_ret (v := .tuple #[.slice (some ⟨w.heap.size + 1 + 1 + 1, 0, none⟩) 3 3, .slice (some ⟨w.heap.size + 1 + 1 + 1 + 1, 0, none⟩) 3 3, .bool true]) (by simp [results, Tryd.results67]) rfl ?_
  exact ⟨_, _, _, _, rfl, (Reads.freshAt _ #[.int .i64 a, .int .i64 b, .int .i64 c'] 3 1 3 (([a, b, c'] : List Int).flatMap intCells) (w.heap.size + 1 + 1 + 1) (by simp) rfl rfl (by decide)).belowU (keep_alloc (Below.refl _ _) _), Reads.freshAt _ #[.int .i64 1, .int .i64 1, .int .i64 1] 3 1 3 (([1, 1, 1] : List Int).flatMap intCells) (w.heap.size + 1 + 1 + 1 + 1) (by simp) rfl rfl (by decide), keep_alloc (keep_alloc (below_drewN hB0 _) _) _⟩
set_option linter.unusedSimpArgs false in
set_option linter.unusedVariables false in
set_option maxRecDepth 100000 in
set_option maxHeartbeats 4000000 in
theorem rk_5 (S : Option Addr) (ns cs : Nat) (F : Option Addr) (nf cf : Nat) (N : Option Addr) (nn cn : Nat) (p : Int) (A : Option Addr) (n c : Nat) (r : Int) (B : Option Addr) (m d : Nat) (a b c' : Int) (k : BitVec 64) (w : World) :
    Calls Tryd.prog 67 #[prV S ns cs F nf cf N nn cn, fnV p A n c r B m d, insV ⟨5, a, b, c', k⟩] w (RetK w [a, b, c'] [1, 1, 1] true) := by
  have hB0 : Below w.heap.size w (((w.alloc (.cells #[.slice S ns cs, .slice F nf cf, .slice N nn cn] 26)).alloc (.cells #[.int .i64 p, .slice A n c, .int .i64 r, .slice B m d] 44)).alloc (.cells #[.int .i64 5, .int .i64 a, .int .i64 b, .int .i64 c', .int .u64 (U k)] 55)) := keep_alloc (keep_alloc (keep_alloc (Below.refl _ _) _) _) _
  go_enter Tryd.func67, Tryd.ntmps67
  go_wp2_with fail
  go_quiet (fail)
  go_wp2_with fail
  refine bodyPost_ret (v := .tuple #[.slice (some ⟨w.heap.size + 1 + 1 + 1, 0, none⟩) 3 3, .slice (some ⟨w.heap.size + 1 + 1 + 1 + 1, 0, none⟩) 3 3, .bool true]) (by simp [results, Tryd.results67]) rfl ?_
  exact ⟨_, _, _, _, rfl, (Reads.freshAt _ #[.int .i64 a, .int .i64 b, .int .i64 c'] 3 1 3 (([a, b, c'] : List Int).flatMap intCells) (w.heap.size + 1 + 1 + 1) (by simp) rfl rfl (by decide)).belowU (keep_alloc (Below.refl _ _) _), Reads.freshAt _ #[.int .i64 1, .int .i64 1, .int .i64 1] 3 1 3 (([1, 1, 1] : List Int).flatMap intCells) (w.heap.size + 1 + 1 + 1 + 1) (by simp) rfl rfl (by decide), keep_alloc (keep_alloc (below_drewN hB0 _) _) _⟩
set_option linter.unusedSimpArgs false in
set_option linter.unusedVariables false in
set_option maxRecDepth 100000 in
set_option maxHeartbeats 4000000 in
theorem rk_6 (S : Option Addr) (ns cs : Nat) (F : Option Addr) (nf cf : Nat) (N : Option Addr) (nn cn : Nat) (p : Int) (A : Option Addr) (n c : Nat) (r : Int) (B : Option Addr) (m d : Nat) (a b c' : Int) (k : BitVec 64) (w : World) :
    Calls Tryd.prog 67 #[prV S ns cs F nf cf N nn cn, fnV p A n c r B m d, insV ⟨6, a, b, c', k⟩] w (RetK w [a, b, c'] [1, 1, 1] true) := by
  have hB0 : Below w.heap.size w (((w.alloc (.cells #[.slice S ns cs, .slice F nf cf, .slice N nn cn] 26)).alloc (.cells #[.int .i64 p, .slice A n c, .int .i64 r, .slice B m d] 44)).alloc (.cells #[.int .i64 6, .int .i64 a, .int .i64 b, .int .i64 c', .int .u64 (U k)] 55)) := keep_alloc (keep_alloc (keep_alloc (Below.refl _ _) _) _) _
  go_enter Tryd.func67, Tryd.ntmps67
  go_wp2_with fail
  go_quiet (fail)
  go_wp2_with fail
  refine bodyPost_ret (v := .tuple #[.slice (some ⟨w.heap.size + 1 + 1 + 1, 0, none⟩) 3 3, .slice (some ⟨w.heap.size + 1 + 1 + 1 + 1, 0, none⟩) 3 3, .bool true]) (by simp [results, Tryd.results67]) rfl ?_
  exact ⟨_, _, _, _, rfl, (Reads.freshAt _ #[.int .i64 a, .int .i64 b, .int .i64 c'] 3 1 3 (([a, b, c'] : List Int).flatMap intCells) (w.heap.size + 1 + 1 + 1) (by simp) rfl rfl (by decide)).belowU (keep_alloc (Below.refl _ _) _), Reads.freshAt _ #[.int .i64 1, .int .i64 1, .int .i64 1] 3 1 3 (([1, 1, 1] : List Int).flatMap intCells) (w.heap.size + 1 + 1 + 1 + 1) (by simp) rfl rfl (by decide), keep_alloc (keep_alloc (below_drewN hB0 _) _) _⟩
set_option linter.unusedSimpArgs false in
set_option linter.unusedVariables false in
set_option maxRecDepth 100000 in
set_option maxHeartbeats 4000000 in
theorem rk_7 (S : Option Addr) (ns cs : Nat) (F : Option Addr) (nf cf : Nat) (N : Option Addr) (nn cn : Nat) (p : Int) (A : Option Addr) (n c : Nat) (r : Int) (B : Option Addr) (m d : Nat) (a b c' : Int) (k : BitVec 64) (w : World) :
    Calls Tryd.prog 67 #[prV S ns cs F nf cf N nn cn, fnV p A n c r B m d, insV ⟨7, a, b, c', k⟩] w (RetK w [a, b, c'] [1, 1, 1] true) := by
  have hB0 : Below w.heap.size w (((w.alloc (.cells #[.slice S ns cs, .slice F nf cf, .slice N nn cn] 26)).alloc (.cells #[.int .i64 p, .slice A n c, .int .i64 r, .slice B m d] 44)).alloc (.cells #[.int .i64 7, .int .i64 a, .int .i64 b, .int .i64 c', .int .u64 (U k)] 55)) := keep_alloc (keep_alloc (keep_alloc (Below.refl _ _) _) _) _
  go_enter Tryd.func67, Tryd.ntmps67
  go_wp2_with fail
  go_quiet (fail)
  go_wp2_with fail
  refine bodyPost_ret (v := .tuple #[.slice (some ⟨w.heap.size + 1 + 1 + 1, 0, none⟩) 3 3, .slice (some ⟨w.heap.size + 1 + 1 + 1 + 1, 0, none⟩) 3 3, .bool true]) (by simp [results, Tryd.results67]) rfl ?_
  exact ⟨_, _, _, _, rfl, (Reads.freshAt _ #[.int .i64 a, .int .i64 b, .int .i64 c'] 3 1 3 (([a, b, c'] : List Int).flatMap intCells) (w.heap.size + 1 + 1 + 1) (by simp) rfl rfl (by decide)).belowU (keep_alloc (Below.refl _ _) _), Reads.freshAt _ #[.int .i64 1, .int .i64 1, .int .i64 1] 3 1 3 (([1, 1, 1] : List Int).flatMap intCells) (w.heap.size + 1 + 1 + 1 + 1) (by simp) rfl rfl (by decide), keep_alloc (keep_alloc (below_drewN hB0 _) _) _⟩
set_option linter.unusedSimpArgs false in
set_option linter.unusedVariables false in
set_option maxRecDepth 100000 in
set_option maxHeartbeats 4000000 in
theorem rk_8 (S : Option Addr) (ns cs : Nat) (F : Option Addr) (nf cf : Nat) (N : Option Addr) (nn cn : Nat) (p : Int) (A : Option Addr) (n c : Nat) (r : Int) (B : Option Addr) (m d : Nat) (a b c' : Int) (k : BitVec 64) (w : World) :
    Calls Tryd.prog 67 #[prV S ns cs F nf cf N nn cn, fnV p A n c r B m d, insV ⟨8, a, b, c', k⟩] w (RetK w [a, b, c'] [1, 1, 1] true) := by
  have hB0 : Below w.heap.size w (((w.alloc (.cells #[.slice S ns cs, .slice F nf cf, .slice N nn cn] 26)).alloc (.cells #[.int .i64 p, .slice A n c, .int .i64 r, .slice B m d] 44)).alloc (.cells #[.int .i64 8, .int .i64 a, .int .i64 b, .int .i64 c', .int .u64 (U k)] 55)) := keep_alloc (keep_alloc (keep_alloc (Below.refl _ _) _) _) _
  go_enter Tryd.func67, Tryd.ntmps67
  go_wp2_with fail
  go_quiet (fail)
  go_wp2_with fail
  refine bodyPost_ret (v := .tuple #[.slice (some ⟨w.heap.size + 1 + 1 + 1, 0, none⟩) 3 3, .slice (some ⟨w.heap.size + 1 + 1 + 1 + 1, 0, none⟩) 3 3, .bool true]) (by simp [results, Tryd.results67]) rfl ?_
  exact ⟨_, _, _, _, rfl, (Reads.freshAt _ #[.int .i64 a, .int .i64 b, .int .i64 c'] 3 1 3 (([a, b, c'] : List Int).flatMap intCells) (w.heap.size + 1 + 1 + 1) (by simp) rfl rfl (by decide)).belowU (keep_alloc (Below.refl _ _) _), Reads.freshAt _ #[.int .i64 1, .int .i64 1, .int .i64 1] 3 1 3 (([1, 1, 1] : List Int).flatMap intCells) (w.heap.size + 1 + 1 + 1 + 1) (by simp) rfl rfl (by decide), keep_alloc (keep_alloc (below_drewN hB0 _) _) _⟩
set_option linter.unusedSimpArgs false in
set_option linter.unusedVariables false in
set_option maxRecDepth 100000 in
set_option maxHeartbeats 4000000 in
theorem rk_9 (S : Option Addr) (ns cs : Nat) (F : Option Addr) (nf cf : Nat) (N : Option Addr) (nn cn : Nat) (p : Int) (A : Option Addr) (n c : Nat) (r : Int) (B : Option Addr) (m d : Nat) (a b c' : Int) (k : BitVec 64) (w : World) :
    Calls Tryd.prog 67 #[prV S ns cs F nf cf N nn cn, fnV p A n c r B m d, insV ⟨9, a, b, c', k⟩] w (RetK w [a, b] [1, 2] true) := by
  have hB0 : Below w.heap.size w (((w.alloc (.cells #[.slice S ns cs, .slice F nf cf, .slice N nn cn] 26)).alloc (.cells #[.int .i64 p, .slice A n c, .int .i64 r, .slice B m d] 44)).alloc (.cells #[.int .i64 9, .int .i64 a, .int .i64 b, .int .i64 c', .int .u64 (U k)] 55)) := keep_alloc (keep_alloc (keep_alloc (Below.refl _ _) _) _) _
  go_enter Tryd.func67, Tryd.ntmps67
  go_wp2_with fail
  go_quiet (fail)
  go_wp2_with fail
  refine bodyPost_ret (v := .tuple #[.slice (some ⟨w.heap.size + 1 + 1 + 1, 0, none⟩) 2 2, .slice (some ⟨w.heap.size + 1 + 1 + 1 + 1, 0, none⟩) 2 2, .bool true]) (by simp [results, Tryd.results67]) rfl ?_
  exact ⟨_, _, _, _, rfl, (Reads.freshAt _ #[.int .i64 a, .int .i64 b] 3 1 2 (([a, b] : List Int).flatMap intCells) (w.heap.size + 1 + 1 + 1) (by simp) rfl rfl (by decide)).belowU (keep_alloc (Below.refl _ _) _), Reads.freshAt _ #[.int .i64 1, .int .i64 2] 3 1 2 (([1, 2] : List Int).flatMap intCells) (w.heap.size + 1 + 1 + 1 + 1) (by simp) rfl rfl (by decide), keep_alloc (keep_alloc (below_drewN hB0 _) _) _⟩
set_option linter.unusedSimpArgs false in
set_option linter.unusedVariables false in
set_option maxRecDepth 100000 in
set_option maxHeartbeats 4000000 in
theorem rk_16 (S : Option Addr) (ns cs : Nat) (F : Option Addr) (nf cf : Nat) (N : Option Addr) (nn cn : Nat) (p : Int) (A : Option Addr) (n c : Nat) (r : Int) (B : Option Addr) (m d : Nat) (a b c' : Int) (k : BitVec 64) (w : World) :
    Calls Tryd.prog 67 #[prV S ns cs F nf cf N nn cn, fnV p A n c r B m d, insV ⟨16, a, b, c', k⟩] w (RetK w [a, b] [1, 2] true) := by
  have hB0 : Below w.heap.size w (((w.alloc (.cells #[.slice S ns cs, .slice F nf cf, .slice N nn cn] 26)).alloc (.cells #[.int .i64 p, .slice A n c, .int .i64 r, .slice B m d] 44)).alloc (.cells #[.int .i64 16, .int .i64 a, .int .i64 b, .int .i64 c', .int .u64 (U k)] 55)) := keep_alloc (keep_alloc (keep_alloc (Below.refl _ _) _) _) _
  go_enter Tryd.func67, Tryd.ntmps67
  go_wp2_with fail
  go_quiet (fail)
  go_wp2_with fail
  refine bodyPost_ret (v := .tuple #[.slice (some ⟨w.heap.size + 1 + 1 + 1, 0, none⟩) 2 2, .slice (some ⟨w.heap.size + 1 + 1 + 1 + 1, 0, none⟩) 2 2, .bool true]) (by simp [results, Tryd.results67]) rfl ?_
  exact ⟨_, _, _, _, rfl, (Reads.freshAt _ #[.int .i64 a, .int .i64 b] 3 1 2 (([a, b] : List Int).flatMap intCells) (w.heap.size + 1 + 1 + 1) (by simp) rfl rfl (by decide)).belowU (keep_alloc (Below.refl _ _) _), Reads.freshAt _ #[.int .i64 1, .int .i64 2] 3 1 2 (([1, 2] : List Int).flatMap intCells) (w.heap.size + 1 + 1 + 1 + 1) (by simp) rfl rfl (by decide), keep_alloc (keep_alloc (below_drewN hB0 _) _) _⟩
set_option linter.unusedSimpArgs false in
set_option linter.unusedVariables false in
set_option maxRecDepth 100000 in
set_option maxHeartbeats 4000000 in
theorem rk_10 (S : Option Addr) (ns cs : Nat) (F : Option Addr) (nf cf : Nat) (N : Option Addr) (nn cn : Nat) (p : Int) (A : Option Addr) (n c : Nat) (r : Int) (B : Option Addr) (m d : Nat) (a b c' : Int) (k : BitVec 64) (w : World) :
    Calls Tryd.prog 67 #[prV S ns cs F nf cf N nn cn, fnV p A n c r B m d, insV ⟨10, a, b, c', k⟩] w (RetK w [a, b, c'] [1, 2, 2] true) := by
  have hB0 : Below w.heap.size w (((w.alloc (.cells #[.slice S ns cs, .slice F nf cf, .slice N nn cn] 26)).alloc (.cells #[.int .i64 p, .slice A n c, .int .i64 r, .slice B m d] 44)).alloc (.cells #[.int .i64 10, .int .i64 a, .int .i64 b, .int .i64 c', .int .u64 (U k)] 55)) := keep_alloc (keep_alloc (keep_alloc (Below.refl _ _) _) _) _
  go_enter Tryd.func67, Tryd.ntmps67
  go_wp2_with fail
  go_quiet (fail)
  go_wp2_with fail
  refine bodyPost_ret (v := .tuple #[.slice (some ⟨w.heap.size + 1 + 1 + 1, 0, none⟩) 3 3, .slice (some ⟨w.heap.size + 1 + 1 + 1 + 1, 0, none⟩) 3 3, .bool true]) (by simp [results, Tryd.results67]) rfl ?_
  exact ⟨_, _, _, _, rfl, (Reads.freshAt _ #[.int .i64 a, .int .i64 b, .int .i64 c'] 3 1 3 (([a, b, c'] : List Int).flatMap intCells) (w.heap.size + 1 + 1 + 1) (by simp) rfl rfl (by decide)).belowU (keep_alloc (Below.refl _ _) _), Reads.freshAt _ #[.int .i64 1, .int .i64 2, .int .i64 2] 3 1 3 (([1, 2, 2] : List Int).flatMap intCells) (w.heap.size + 1 + 1 + 1 + 1) (by simp) rfl rfl (by decide), keep_alloc (keep_alloc (below_drewN hB0 _) _) _⟩
set_option linter.unusedSimpArgs false in
set_option linter.unusedVariables false in
set_option maxRecDepth 100000 in
set_option maxHeartbeats 4000000 in
theorem rk_14 (S : Option Addr) (ns cs : Nat) (F : Option Addr) (nf cf : Nat) (N : Option Addr) (nn cn : Nat) (p : Int) (A : Option Addr) (n c : Nat) (r : Int) (B : Option Addr) (m d : Nat) (a b c' : Int) (k : BitVec 64) (w : World) :
    Calls Tryd.prog 67 #[prV S ns cs F nf cf N nn cn, fnV p A n c r B m d, insV ⟨14, a, b, c', k⟩] w (RetK w [a, b] [2, 1] true) := by
  have hB0 : Below w.heap.size w (((w.alloc (.cells #[.slice S ns cs, .slice F nf cf, .slice N nn cn] 26)).alloc (.cells #[.int .i64 p, .slice A n c, .int .i64 r, .slice B m d] 44)).alloc (.cells #[.int .i64 14, .int .i64 a, .int .i64 b, .int .i64 c', .int .u64 (U k)] 55)) := keep_alloc (keep_alloc (keep_alloc (Below.refl _ _) _) _) _
  go_enter Tryd.func67, Tryd.ntmps67
  go_wp2_with fail
  go_quiet (fail)
  go_wp2_with fail
  refine bodyPost_ret (v := .tuple #[.slice (some ⟨w.heap.size + 1 + 1 + 1, 0, none⟩) 2 2, .slice (some ⟨w.heap.size + 1 + 1 + 1 + 1, 0, none⟩) 2 2, .bool true]) (by simp [results, Tryd.results67]) rfl ?_
  exact ⟨_, _, _, _, rfl, (Reads.freshAt _ #[.int .i64 a, .int .i64 b] 3 1 2 (([a, b] : List Int).flatMap intCells) (w.heap.size + 1 + 1 + 1) (by simp) rfl rfl (by decide)).belowU (keep_alloc (Below.refl _ _) _), Reads.freshAt _ #[.int .i64 2, .int .i64 1] 3 1 2 (([2, 1] : List Int).flatMap intCells) (w.heap.size + 1 + 1 + 1 + 1) (by simp) rfl rfl (by decide), keep_alloc (keep_alloc (below_drewN hB0 _) _) _⟩
set_option linter.unusedSimpArgs false in
set_option linter.unusedVariables false in
set_option maxRecDepth 100000 in
set_option maxHeartbeats 4000000 in
theorem rk_15 (S : Option Addr) (ns cs : Nat) (F : Option Addr) (nf cf : Nat) (N : Option Addr) (nn cn : Nat) (p : Int) (A : Option Addr) (n c : Nat) (r : Int) (B : Option Addr) (m d : Nat) (a b c' : Int) (k : BitVec 64) (w : World) :
    Calls Tryd.prog 67 #[prV S ns cs F nf cf N nn cn, fnV p A n c r B m d, insV ⟨15, a, b, c', k⟩] w (RetK w [a, b] [2, 1] true) := by
  have hB0 : Below w.heap.size w (((w.alloc (.cells #[.slice S ns cs, .slice F nf cf, .slice N nn cn] 26)).alloc (.cells #[.int .i64 p, .slice A n c, .int .i64 r, .slice B m d] 44)).alloc (.cells #[.int .i64 15, .int .i64 a, .int .i64 b, .int .i64 c', .int .u64 (U k)] 55)) := keep_alloc (keep_alloc (keep_alloc (Below.refl _ _) _) _) _
  go_enter Tryd.func67, Tryd.ntmps67
  go_wp2_with fail
  go_quiet (fail)
  go_wp2_with fail
  refine bodyPost_ret (v := .tuple #[.slice (some ⟨w.heap.size + 1 + 1 + 1, 0, none⟩) 2 2, .slice (some ⟨w.heap.size + 1 + 1 + 1 + 1, 0, none⟩) 2 2, .bool true]) (by simp [results, Tryd.results67]) rfl ?_
  exact ⟨_, _, _, _, rfl, (Reads.freshAt _ #[.int .i64 a, .int .i64 b] 3 1 2 (([a, b] : List Int).flatMap intCells) (w.heap.size + 1 + 1 + 1) (by simp) rfl rfl (by decide)).belowU (keep_alloc (Below.refl _ _) _), Reads.freshAt _ #[.int .i64 2, .int .i64 1] 3 1 2 (([2, 1] : List Int).flatMap intCells) (w.heap.size + 1 + 1 + 1 + 1) (by simp) rfl rfl (by decide), keep_alloc (keep_alloc (below_drewN hB0 _) _) _⟩
set_option linter.unusedSimpArgs false in
set_option linter.unusedVariables false in
set_option maxRecDepth 100000 in
set_option maxHeartbeats 4000000 in
theorem rk_17 (S : Option Addr) (ns cs : Nat) (F : Option Addr) (nf cf : Nat) (N : Option Addr) (nn cn : Nat) (p : Int) (A : Option Addr) (n c : Nat) (r : Int) (B : Option Addr) (m d : Nat) (a b c' : Int) (k : BitVec 64) (w : World) :
    Calls Tryd.prog 67 #[prV S ns cs F nf cf N nn cn, fnV p A n c r B m d, insV ⟨17, a, b, c', k⟩] w (RetK w [a, b, c'] [1, 2, 1] true) := by
  have hB0 : Below w.heap.size w (((w.alloc (.cells #[.slice S ns cs, .slice F nf cf, .slice N nn cn] 26)).alloc (.cells #[.int .i64 p, .slice A n c, .int .i64 r, .slice B m d] 44)).alloc (.cells #[.int .i64 17, .int .i64 a, .int .i64 b, .int .i64 c', .int .u64 (U k)] 55)) := keep_alloc (keep_alloc (keep_alloc (Below.refl _ _) _) _) _
  go_enter Tryd.func67, Tryd.ntmps67
  go_wp2_with fail
  go_quiet (fail)
  go_wp2_with fail
  refine bodyPost_ret (v := .tuple #[.slice (some ⟨w.heap.size + 1 + 1 + 1, 0, none⟩) 3 3, .slice (some ⟨w.heap.size + 1 + 1 + 1 + 1, 0, none⟩) 3 3, .bool true]) (by simp [results, Tryd.results67]) rfl ?_
  exact ⟨_, _, _, _, rfl, (Reads.freshAt _ #[.int .i64 a, .int .i64 b, .int .i64 c'] 3 1 3 (([a, b, c'] : List Int).flatMap intCells) (w.heap.size + 1 + 1 + 1) (by simp) rfl rfl (by decide)).belowU (keep_alloc (Below.refl _ _) _), Reads.freshAt _ #[.int .i64 1, .int .i64 2, .int .i64 1] 3 1 3 (([1, 2, 1] : List Int).flatMap intCells) (w.heap.size + 1 + 1 + 1 + 1) (by simp) rfl rfl (by decide), keep_alloc (keep_alloc (below_drewN hB0 _) _) _⟩
set_option linter.unusedSimpArgs false in
set_option linter.unusedVariables false in
set_option maxRecDepth 100000 in
set_option maxHeartbeats 4000000 in
theorem rk_18 (S : Option Addr) (ns cs : Nat) (F : Option Addr) (nf cf : Nat) (N : Option Addr) (nn cn : Nat) (p : Int) (A : Option Addr) (n c : Nat) (r : Int) (B : Option Addr) (m d : Nat) (a b c' : Int) (k : BitVec 64) (w : World) :
    Calls Tryd.prog 67 #[prV S ns cs F nf cf N nn cn, fnV p A n c r B m d, insV ⟨18, a, b, c', k⟩] w (RetK w [a, b, c'] [2, 1, 1] true) := by
  have hB0 : Below w.heap.size w (((w.alloc (.cells #[.slice S ns cs, .slice F nf cf, .slice N nn cn] 26)).alloc (.cells #[.int .i64 p, .slice A n c, .int .i64 r, .slice B m d] 44)).alloc (.cells #[.int .i64 18, .int .i64 a, .int .i64 b, .int .i64 c', .int .u64 (U k)] 55)) := keep_alloc (keep_alloc (keep_alloc (Below.refl _ _) _) _) _
  go_enter Tryd.func67, Tryd.ntmps67
  go_wp2_with fail
  go_quiet (fail)
  go_wp2_with fail
  refine bodyPost_ret (v := .tuple #[.slice (some ⟨w.heap.size + 1 + 1 + 1, 0, none⟩) 3 3, .slice (some ⟨w.heap.size + 1 + 1 + 1 + 1, 0, none⟩) 3 3, .bool true]) (by simp [results, Tryd.results67]) rfl ?_
  exact ⟨_, _, _, _, rfl, (Reads.freshAt _ #[.int .i64 a, .int .i64 b, .int .i64 c'] 3 1 3 (([a, b, c'] : List Int).flatMap intCells) (w.heap.size + 1 + 1 + 1) (by simp) rfl rfl (by decide)).belowU (keep_alloc (Below.refl _ _) _), Reads.freshAt _ #[.int .i64 2, .int .i64 1, .int .i64 1] 3 1 3 (([2, 1, 1] : List Int).flatMap intCells) (w.heap.size + 1 + 1 + 1 + 1) (by simp) rfl rfl (by decide), keep_alloc (keep_alloc (below_drewN hB0 _) _) _⟩
set_option linter.unusedSimpArgs false in
set_option linter.unusedVariables false in
set_option maxRecDepth 100000 in
set_option maxHeartbeats 4000000 in
theorem rk_19 (S : Option Addr) (ns cs : Nat) (F : Option Addr) (nf cf : Nat) (N : Option Addr) (nn cn : Nat) (p : Int) (A : Option Addr) (n c : Nat) (r : Int) (B : Option Addr) (m d : Nat) (a b c' : Int) (k : BitVec 64) (w : World) :
    Calls Tryd.prog 67 #[prV S ns cs F nf cf N nn cn, fnV p A n c r B m d, insV ⟨19, a, b, c', k⟩] w (RetK w [a, b, c'] [2, 2, 1] true) := by
  have hB0 : Below w.heap.size w (((w.alloc (.cells #[.slice S ns cs, .slice F nf cf, .slice N nn cn] 26)).alloc (.cells #[.int .i64 p, .slice A n c, .int .i64 r, .slice B m d] 44)).alloc (.cells #[.int .i64 19, .int .i64 a, .int .i64 b, .int .i64 c', .int .u64 (U k)] 55)) := keep_alloc (keep_alloc (keep_alloc (Below.refl _ _) _) _) _
  go_enter Tryd.func67, Tryd.ntmps67
  go_wp2_with fail
  go_quiet (fail)
  go_wp2_with fail
  refine bodyPost_ret (v := .tuple #[.slice (some ⟨w.heap.size + 1 + 1 + 1, 0, none⟩) 3 3, .slice (some ⟨w.heap.size + 1 + 1 + 1 + 1, 0, none⟩) 3 3, .bool true]) (by simp [results, Tryd.results67]) rfl ?_
  exact ⟨_, _, _, _, rfl, (Reads.freshAt _ #[.int .i64 a, .int .i64 b, .int .i64 c'] 3 1 3 (([a, b, c'] : List Int).flatMap intCells) (w.heap.size + 1 + 1 + 1) (by simp) rfl rfl (by decide)).belowU (keep_alloc (Below.refl _ _) _), Reads.freshAt _ #[.int .i64 2, .int .i64 2, .int .i64 1] 3 1 3 (([2, 2, 1] : List Int).flatMap intCells) (w.heap.size + 1 + 1 + 1 + 1) (by simp) rfl rfl (by decide), keep_alloc (keep_alloc (below_drewN hB0 _) _) _⟩
set_option linter.unusedSimpArgs false in
set_option linter.unusedVariables false in
set_option maxRecDepth 100000 in
set_option maxHeartbeats 4000000 in
theorem rk_20 (S : Option Addr) (ns cs : Nat) (F : Option Addr) (nf cf : Nat) (N : Option Addr) (nn cn : Nat) (p : Int) (A : Option Addr) (n c : Nat) (r : Int) (B : Option Addr) (m d : Nat) (a b c' : Int) (k : BitVec 64) (w : World) :
    Calls Tryd.prog 67 #[prV S ns cs F nf cf N nn cn, fnV p A n c r B m d, insV ⟨20, a, b, c', k⟩] w (RetK w [a, b, c'] [2, 1, 2] true) := by
  have hB0 : Below w.heap.size w (((w.alloc (.cells #[.slice S ns cs, .slice F nf cf, .slice N nn cn] 26)).alloc (.cells #[.int .i64 p, .slice A n c, .int .i64 r, .slice B m d] 44)).alloc (.cells #[.int .i64 20, .int .i64 a, .int .i64 b, .int .i64 c', .int .u64 (U k)] 55)) := keep_alloc (keep_alloc (keep_alloc (Below.refl _ _) _) _) _
  go_enter Tryd.func67, Tryd.ntmps67
  go_wp2_with fail
  go_quiet (fail)
  go_wp2_with fail
  refine bodyPost_ret (v := .tuple #[.slice (some ⟨w.heap.size + 1 + 1 + 1, 0, none⟩) 3 3, .slice (some ⟨w.heap.size + 1 + 1 + 1 + 1, 0, none⟩) 3 3, .bool true]) (by simp [results, Tryd.results67]) rfl ?_
  exact ⟨_, _, _, _, rfl, (Reads.freshAt _ #[.int .i64 a, .int .i64 b, .int .i64 c'] 3 1 3 (([a, b, c'] : List Int).flatMap intCells) (w.heap.size + 1 + 1 + 1) (by simp) rfl rfl (by decide)).belowU (keep_alloc (Below.refl _ _) _), Reads.freshAt _ #[.int .i64 2, .int .i64 1, .int .i64 2] 3 1 3 (([2, 1, 2] : List Int).flatMap intCells) (w.heap.size + 1 + 1 + 1 + 1) (by simp) rfl rfl (by decide), keep_alloc (keep_alloc (below_drewN hB0 _) _) _⟩
set_option linter.unusedSimpArgs false in
set_option linter.unusedVariables false in
set_option maxRecDepth 100000 in
set_option maxHeartbeats 4000000 in
theorem rk_12 (S : Option Addr) (ns cs : Nat) (F : Option Addr) (nf cf : Nat) (N : Option Addr) (nn cn : Nat) (p : Int) (A : Option Addr) (n c : Nat) (r : Int) (B : Option Addr) (m d : Nat) (a b c' : Int) (k : BitVec 64) (w : World) (hm : m ≤ 1000000) (hk : U k < m) :
    Calls Tryd.prog 67 #[prV S ns cs F nf cf N nn cn, fnV p A n c r B m d, insV ⟨12, a, b, c', k⟩] w (RetK w [a] [1] true) := by
  have hB0 : Below w.heap.size w (((w.alloc (.cells #[.slice S ns cs, .slice F nf cf, .slice N nn cn] 26)).alloc (.cells #[.int .i64 p, .slice A n c, .int .i64 r, .slice B m d] 44)).alloc (.cells #[.int .i64 12, .int .i64 a, .int .i64 b, .int .i64 c', .int .u64 (U k)] 55)) := keep_alloc (keep_alloc (keep_alloc (Below.refl _ _) _) _) _
  have X1 := ((Blk.newAt (w.alloc (.cells #[.slice S ns cs, .slice F nf cf, .slice N nn cn] 26)) #[.int .i64 p, .slice A n c, .int .i64 r, .slice B m d] 44 (w.heap.size + 1) (by simp)).alloc (.cells #[.int .i64 12, .int .i64 a, .int .i64 b, .int .i64 c', .int .u64 (U k)] 55))
  have X1d := fun q => X1.drewN q
  have y0 := fun q => (X1d q).cell 3 _ rfl
  have ws : IntKind.u64.wrap (m : Int) = (m : Int) := IntWalk.u64_in _ ⟨by omega, by omega⟩
  have hd : decide (U k < (m : Int)) = true := decide_eq_true hk
  clear X1 X1d hk
  go_enter Tryd.func67, Tryd.ntmps67
  go_wp2_with fail
  go_quiet (fail)
  go_wp2_with fail
  refine bodyPost_ret (v := .tuple #[.slice (some ⟨w.heap.size + 1 + 1 + 1, 0, none⟩) 1 1, .slice (some ⟨w.heap.size + 1 + 1 + 1 + 1, 0, none⟩) 1 1, .bool true]) (by simp [results, Tryd.results67]) rfl ?_
  exact ⟨_, _, _, _, rfl, (Reads.freshAt _ #[.int .i64 a] 3 1 1 (([a] : List Int).flatMap intCells) (w.heap.size + 1 + 1 + 1) (by simp) rfl rfl (by decide)).belowU (keep_alloc (Below.refl _ _) _), Reads.freshAt _ #[.int .i64 1] 3 1 1 (([1] : List Int).flatMap intCells) (w.heap.size + 1 + 1 + 1 + 1) (by simp) rfl rfl (by decide), keep_alloc (keep_alloc (below_drewN hB0 _) _) _⟩
set_option linter.unusedSimpArgs false in
set_option linter.unusedVariables false in
set_option maxRecDepth 100000 in
set_option maxHeartbeats 4000000 in
theorem rk_12_no (S : Option Addr) (ns cs : Nat) (F : Option Addr) (nf cf : Nat) (N : Option Addr) (nn cn : Nat) (p : Int) (A : Option Addr) (n c : Nat) (r : Int) (B : Option Addr) (m d : Nat) (a b c' : Int) (k : BitVec 64) (w : World) (hm : m ≤ 1000000) (hk : (m : Int) ≤ U k) :
    Calls Tryd.prog 67 #[prV S ns cs F nf cf N nn cn, fnV p A n c r B m d, insV ⟨12, a, b, c', k⟩] w (RetK w [] [] false) := by
  have hB0 : Below w.heap.size w (((w.alloc (.cells #[.slice S ns cs, .slice F nf cf, .slice N nn cn] 26)).alloc (.cells #[.int .i64 p, .slice A n c, .int .i64 r, .slice B m d] 44)).alloc (.cells #[.int .i64 12, .int .i64 a, .int .i64 b, .int .i64 c', .int .u64 (U k)] 55)) := keep_alloc (keep_alloc (keep_alloc (Below.refl _ _) _) _) _
  have X1 := ((Blk.newAt (w.alloc (.cells #[.slice S ns cs, .slice F nf cf, .slice N nn cn] 26)) #[.int .i64 p, .slice A n c, .int .i64 r, .slice B m d] 44 (w.heap.size + 1) (by simp)).alloc (.cells #[.int .i64 12, .int .i64 a, .int .i64 b, .int .i64 c', .int .u64 (U k)] 55))
  have X1d := fun q => X1.drewN q
  have y0 := fun q => (X1d q).cell 3 _ rfl
  have ws : IntKind.u64.wrap (m : Int) = (m : Int) := IntWalk.u64_in _ ⟨by omega, by omega⟩
  have hd : decide (U k < (m : Int)) = false := decide_eq_false (by omega)
  clear X1 X1d hk
  go_enter Tryd.func67, Tryd.ntmps67
  go_wp2_with fail
  go_quiet (fail)
  go_wp2_with fail
  refine bodyPost_ret (v := .tuple #[.slice none 0 0, .slice none 0 0, .bool false]) (by simp [results, Tryd.results67]) rfl ?_
  exact ⟨none, 0, none, 0, rfl, Reads.nil, Reads.nil, below_drewN hB0 _⟩
set_option linter.unusedSimpArgs false in
set_option linter.unusedVariables false in
set_option maxRecDepth 100000 in
set_option maxHeartbeats 4000000 in
theorem rk_13 (S : Option Addr) (ns cs : Nat) (F : Option Addr) (nf cf : Nat) (N : Option Addr) (nn cn : Nat) (p : Int) (A : Option Addr) (n c : Nat) (r : Int) (B : Option Addr) (m d : Nat) (a b c' : Int) (k : BitVec 64) (w : World) (hns : ns ≤ 1000000) (hk : U k < ns) :
    Calls Tryd.prog 67 #[prV S ns cs F nf cf N nn cn, fnV p A n c r B m d, insV ⟨13, a, b, c', k⟩] w (RetK w [a] [2] true) := by
  have hB0 : Below w.heap.size w (((w.alloc (.cells #[.slice S ns cs, .slice F nf cf, .slice N nn cn] 26)).alloc (.cells #[.int .i64 p, .slice A n c, .int .i64 r, .slice B m d] 44)).alloc (.cells #[.int .i64 13, .int .i64 a, .int .i64 b, .int .i64 c', .int .u64 (U k)] 55)) := keep_alloc (keep_alloc (keep_alloc (Below.refl _ _) _) _) _
  have X0 := (((Blk.new w #[.slice S ns cs, .slice F nf cf, .slice N nn cn] 26).alloc (.cells #[.int .i64 p, .slice A n c, .int .i64 r, .slice B m d] 44)).alloc (.cells #[.int .i64 13, .int .i64 a, .int .i64 b, .int .i64 c', .int .u64 (U k)] 55))
  have X0d := fun q => X0.drewN q
  have y0 := fun q => (X0d q).cell 0 _ rfl
  have ws : IntKind.u64.wrap (ns : Int) = (ns : Int) := IntWalk.u64_in _ ⟨by omega, by omega⟩
  have hd : decide (U k < (ns : Int)) = true := decide_eq_true hk
  clear X0 X0d hk
  go_enter Tryd.func67, Tryd.ntmps67
  go_wp2_with fail
  go_quiet (fail)
  go_wp2_with fail
  refine bodyPost_ret (v := .tuple #[.slice (some ⟨w.heap.size + 1 + 1 + 1, 0, none⟩) 1 1, .slice (some ⟨w.heap.size + 1 + 1 + 1 + 1, 0, none⟩) 1 1, .bool true]) (by simp [results, Tryd.results67]) rfl ?_
  exact ⟨_, _, _, _, rfl, (Reads.freshAt _ #[.int .i64 a] 3 1 1 (([a] : List Int).flatMap intCells) (w.heap.size + 1 + 1 + 1) (by simp) rfl rfl (by decide)).belowU (keep_alloc (Below.refl _ _) _), Reads.freshAt _ #[.int .i64 2] 3 1 1 (([2] : List Int).flatMap intCells) (w.heap.size + 1 + 1 + 1 + 1) (by simp) rfl rfl (by decide), keep_alloc (keep_alloc (below_drewN hB0 _) _) _⟩
set_option linter.unusedSimpArgs false in
set_option linter.unusedVariables false in
set_option maxRecDepth 100000 in
set_option maxHeartbeats 4000000 in
theorem rk_13_no (S : Option Addr) (ns cs : Nat) (F : Option Addr) (nf cf : Nat) (N : Option Addr) (nn cn : Nat) (p : Int) (A : Option Addr) (n c : Nat) (r : Int) (B : Option Addr) (m d : Nat) (a b c' : Int) (k : BitVec 64) (w : World) (hns : ns ≤ 1000000) (hk : (ns : Int) ≤ U k) :
    Calls Tryd.prog 67 #[prV S ns cs F nf cf N nn cn, fnV p A n c r B m d, insV ⟨13, a, b, c', k⟩] w (RetK w [] [] false) := by
  have hB0 : Below w.heap.size w (((w.alloc (.cells #[.slice S ns cs, .slice F nf cf, .slice N nn cn] 26)).alloc (.cells #[.int .i64 p, .slice A n c, .int .i64 r, .slice B m d] 44)).alloc (.cells #[.int .i64 13, .int .i64 a, .int .i64 b, .int .i64 c', .int .u64 (U k)] 55)) := keep_alloc (keep_alloc (keep_alloc (Below.refl _ _) _) _) _
  have X0 := (((Blk.new w #[.slice S ns cs, .slice F nf cf, .slice N nn cn] 26).alloc (.cells #[.int .i64 p, .slice A n c, .int .i64 r, .slice B m d] 44)).alloc (.cells #[.int .i64 13, .int .i64 a, .int .i64 b, .int .i64 c', .int .u64 (U k)] 55))
  have X0d := fun q => X0.drewN q
  have y0 := fun q => (X0d q).cell 0 _ rfl
  have ws : IntKind.u64.wrap (ns : Int) = (ns : Int) := IntWalk.u64_in _ ⟨by omega, by omega⟩
  have hd : decide (U k < (ns : Int)) = false := decide_eq_false (by omega)
  clear X0 X0d hk
  go_enter Tryd.func67, Tryd.ntmps67
  go_wp2_with fail
  go_quiet (fail)
  go_wp2_with fail
  refine bodyPost_ret (v := .tuple #[.slice none 0 0, .slice none 0 0, .bool false]) (by simp [results, Tryd.results67]) rfl ?_
  exact ⟨none, 0, none, 0, rfl, Reads.nil, Reads.nil, below_drewN hB0 _⟩
set_option linter.unusedSimpArgs false in
set_option linter.unusedVariables false in
set_option maxRecDepth 100000 in
set_option maxHeartbeats 4000000 in
theorem rk_11 (S : Option Addr) (ns cs : Nat) (F : Option Addr) (nf cf : Nat) (N : Option Addr) (nn cn : Nat) (p : Int) (A : Option Addr) (n c : Nat) (r : Int) (B : Option Addr) (m d : Nat) (a b c' : Int) (k : BitVec 64) (w : World) (hm : m ≤ 1000000) :
    Calls Tryd.prog 67 #[prV S ns cs F nf cf N nn cn, fnV p A n c r B m d, insV ⟨11, a, b, c', k⟩] w (RetK w [] [] (decide (U k < (m : Int)))) := by
  have hB0 : Below w.heap.size w (((w.alloc (.cells #[.slice S ns cs, .slice F nf cf, .slice N nn cn] 26)).alloc (.cells #[.int .i64 p, .slice A n c, .int .i64 r, .slice B m d] 44)).alloc (.cells #[.int .i64 11, .int .i64 a, .int .i64 b, .int .i64 c', .int .u64 (U k)] 55)) := keep_alloc (keep_alloc (keep_alloc (Below.refl _ _) _) _) _
  have X1 := ((Blk.newAt (w.alloc (.cells #[.slice S ns cs, .slice F nf cf, .slice N nn cn] 26)) #[.int .i64 p, .slice A n c, .int .i64 r, .slice B m d] 44 (w.heap.size + 1) (by simp)).alloc (.cells #[.int .i64 11, .int .i64 a, .int .i64 b, .int .i64 c', .int .u64 (U k)] 55))
  have X1d := fun q => X1.drewN q
  have y0 := fun q => (X1d q).cell 3 _ rfl
  have ws : IntKind.u64.wrap (m : Int) = (m : Int) := IntWalk.u64_in _ ⟨by omega, by omega⟩
  obtain ⟨q, hq⟩ : ∃ q : Bool, decide (U k < (m : Int)) = q := ⟨_, rfl⟩
  have HQ := Lib.hid hq
  clear X1 X1d
  rw [hq]
  go_enter Tryd.func67, Tryd.ntmps67
  go_wp2_with fail
  go_quiet (fail)
  go_wp2_with fail
  go_quiet (fail)
  go_wp2_with fail
  refine bodyPost_ret (v := .tuple #[.slice none 0 0, .slice none 0 0, .bool q]) (by simp [results, Tryd.results67]) rfl ?_
  exact ⟨none, 0, none, 0, rfl, Reads.nil, Reads.nil, below_drewN (below_drewN hB0 _) _⟩
set_option linter.unusedSimpArgs false in
set_option linter.unusedVariables false in
set_option maxRecDepth 100000 in
set_option maxHeartbeats 4000000 in
theorem rk_no (S : Option Addr) (ns cs : Nat) (F : Option Addr) (nf cf : Nat) (N : Option Addr) (nn cn : Nat) (p : Int) (A : Option Addr) (n c : Nat) (r : Int) (B : Option Addr) (m d : Nat) (op a b c' : Int) (k : BitVec 64) (w : World) (ho : op < 1 ∨ 25 < op) :
    Calls Tryd.prog 67 #[prV S ns cs F nf cf N nn cn, fnV p A n c r B m d, insV ⟨op, a, b, c', k⟩] w (RetK w [] [] false) := by
  have hB0 : Below w.heap.size w (((w.alloc (.cells #[.slice S ns cs, .slice F nf cf, .slice N nn cn] 26)).alloc (.cells #[.int .i64 p, .slice A n c, .int .i64 r, .slice B m d] 44)).alloc (.cells #[.int .i64 op, .int .i64 a, .int .i64 b, .int .i64 c', .int .u64 (U k)] 55)) := keep_alloc (keep_alloc (keep_alloc (Below.refl _ _) _) _) _
  have e1 : (op == 1) = false := beq_false_of_ne (by omega)
  have e2 : (op == 2) = false := beq_false_of_ne (by omega)
  have e3 : (op == 3) = false := beq_false_of_ne (by omega)
  have e4 : (op == 4) = false := beq_false_of_ne (by omega)
  have e5 : (op == 5) = false := beq_false_of_ne (by omega)
  have e6 : (op == 6) = false := beq_false_of_ne (by omega)
  have e7 : (op == 7) = false := beq_false_of_ne (by omega)
  have e8 : (op == 8) = false := beq_false_of_ne (by omega)
  have e9 : (op == 9) = false := beq_false_of_ne (by omega)
  have e10 : (op == 10) = false := beq_false_of_ne (by omega)
  have e11 : (op == 11) = false := beq_false_of_ne (by omega)
  have e12 : (op == 12) = false := beq_false_of_ne (by omega)
  have e13 : (op == 13) = false := beq_false_of_ne (by omega)
  have e14 : (op == 14) = false := beq_false_of_ne (by omega)
  have e15 : (op == 15) = false := beq_false_of_ne (by omega)
  have e16 : (op == 16) = false := beq_false_of_ne (by omega)
  have e17 : (op == 17) = false := beq_false_of_ne (by omega)
  have e18 : (op == 18) = false := beq_false_of_ne (by omega)
  have e19 : (op == 19) = false := beq_false_of_ne (by omega)
  have e20 : (op == 20) = false := beq_false_of_ne (by omega)
  have e21 : (op == 21) = false := beq_false_of_ne (by omega)
  have e22 : (op == 22) = false := beq_false_of_ne (by omega)
  have e23 : (op == 23) = false := beq_false_of_ne (by omega)
  have e24 : (op == 24) = false := beq_false_of_ne (by omega)
  have e25 : (op == 25) = false := beq_false_of_ne (by omega)
  clear ho
  go_enter Tryd.func67, Tryd.ntmps67
  go_wp2_with fail
  go_quiet (fail)
  go_wp2_with fail
  refine bodyPost_ret (v := .tuple #[.slice none 0 0, .slice none 0 0, .bool false]) (by simp [results, Tryd.results67]) rfl ?_
  exact ⟨none, 0, none, 0, rfl, Reads.nil, Reads.nil, below_drewN hB0 _⟩
end Go.Proofs.YtnnchinpmnpfiaaDoor
/- The reference's Kinds of a move and of a return. -/
namespace Go.Proofs.YtnnchinpmnpfiaaDoor
open Go.ChangeShapes Go.WideShapes Go.RowKit Words

theorem reads_two (W : World) (g : Nat) (a b : Int) (h : Blk W g 3 #[.int .i64 a, .int .i64 b]) : Reads W W.heap.size 1 (some ⟨g, 0, none⟩) 2 2 (([a, b] : List Int).flatMap intCells) :=
  ⟨rfl, Nat.le_refl _, by decide, (fun h => by cases h), fun _ => ⟨g, 0, rfl, h.lt, fun j u hu => by
    rw [Nat.zero_add]
    match j, hu with
    | 0, hu => cases hu; exact h.cell 0 _ rfl
    | 1, hu => cases hu; exact h.cell 1 _ rfl
    | j + 2, hu => cases hu⟩⟩
set_option linter.unusedSimpArgs false in
set_option linter.unusedVariables false in
set_option maxRecDepth 100000 in
set_option maxHeartbeats 4000000 in
theorem rk_2 (S : Option Addr) (ns cs : Nat) (F : Option Addr) (nf cf : Nat) (N : Option Addr) (nn cn : Nat) (p : Int) (A : Option Addr) (n c : Nat) (r : Int) (B : Option Addr) (m d : Nat) (locs : List Int) (a b c' : Int) (k : BitVec 64) (w : World)
    (hA : Reads w w.heap.size 1 A n c (locs.flatMap intCells)) :
    Calls Tryd.prog 67 #[prV S ns cs F nf cf N nn cn, fnV p A n c r B m d, insV ⟨2, a, b, c', k⟩] w (RetK w [a, b] [kindL locs a, kindL locs a] true) := by
  have hB0 : Below w.heap.size w (((w.alloc (.cells #[.slice S ns cs, .slice F nf cf, .slice N nn cn] 26)).alloc (.cells #[.int .i64 p, .slice A n c, .int .i64 r, .slice B m d] 44)).alloc (.cells #[.int .i64 2, .int .i64 a, .int .i64 b, .int .i64 c', .int .u64 (U k)] 55)) := keep_alloc (keep_alloc (keep_alloc (Below.refl _ _) _) _) _
  have X1 := (Blk.newAt (w.alloc (.cells #[.slice S ns cs, .slice F nf cf, .slice N nn cn] 26)) #[.int .i64 p, .slice A n c, .int .i64 r, .slice B m d] 44 (w.heap.size + 1) (by simp)).alloc (.cells #[.int .i64 2, .int .i64 a, .int .i64 b, .int .i64 c', .int .u64 (U k)] 55)
  have hA1 := hA.belowU hB0
  clear hA
  obtain ⟨kd, hkd⟩ : ∃ kd, kindL locs a = kd := ⟨_, rfl⟩
  have HKD := Lib.hid hkd
  clear hkd
  go_enter Tryd.func67, Tryd.ntmps67
  go_wp2_with fail
  go_quiet (fail)
  go_upto_region 8 with fail
  have hBq := below_drewN hB0 nq
  have X1q := X1.drewN nq
  have hAq := hA1.drewN nq
  have hsz := Nat.le_refl (World.drewN (((w.alloc (.cells #[.slice S ns cs, .slice F nf cf, .slice N nn cn] 26)).alloc (.cells #[.int .i64 p, .slice A n c, .int .i64 r, .slice B m d] 44)).alloc (.cells #[.int .i64 2, .int .i64 a, .int .i64 b, .int .i64 c', .int .u64 (U k)] 55)) nq).heap.size
  change (((w.alloc (.cells #[.slice S ns cs, .slice F nf cf, .slice N nn cn] 26)).alloc (.cells #[.int .i64 p, .slice A n c, .int .i64 r, .slice B m d] 44)).alloc (.cells #[.int .i64 2, .int .i64 a, .int .i64 b, .int .i64 c', .int .u64 (U k)] 55)).heap.size ≤ _ at hsz
  generalize World.drewN _ nq = w1 at hBq X1q hAq hsz ⊢
  have L0 : ∀ u, Below w1.heap.size w1 u → u.cell? ⟨w.heap.size + 1, 0, none⟩ = some (.int .i64 p) := fun u hu => (X1q.below hu).cell 0 _ rfl
  have L1 : ∀ u, Below w1.heap.size w1 u → u.cell? ⟨w.heap.size + 1, 1, none⟩ = some (.slice A n c) := fun u hu => (X1q.below hu).cell 1 _ rfl
  have L2 : ∀ u, Below w1.heap.size w1 u → u.cell? ⟨w.heap.size + 1, 2, none⟩ = some (.int .i64 r) := fun u hu => (X1q.below hu).cell 2 _ rfl
  have L3 : ∀ u, Below w1.heap.size w1 u → u.cell? ⟨w.heap.size + 1, 3, none⟩ = some (.slice B m d) := fun u hu => (X1q.below hu).cell 3 _ rfl
  have hA2 : Reads w1 w1.heap.size 1 A n c (locs.flatMap intCells) := hAq.more hsz
  have HK := Lib.hid (show ∀ u, Below w1.heap.size w1 u → Calls Tryd.prog 68 #[fnV p A n c r B m d, .int .i64 a] u fun e w' => e = .returned (.int .i64 kd) ∧ Below u.heap.size u w' from fun u hu => by
    rw [← HKD.out]
    exact rkind_any p A n c r B m d locs a u (hA2.belowU hu))
  have TK := Lib.hid True.intro
  clear hA1 hAq X1 X1q hA2 hsz
  go_region_held3 (fun w' => Below w1.heap.size w1 w') (first | assumption | exact (Below.refl _ _).drew | exact keep_alloc (by first | assumption | exact (Below.refl _ _).drew) _ | exact keep_below (by assumption) (by first | assumption | exact (Below.refl _ _).drew | exact keep_alloc (by first | assumption | exact (Below.refl _ _).drew) _)) ((go_at_call 68; first | (clear TK; refine (HK.out _ (by first | assumption | exact (Below.refl _ _).drew | exact keep_alloc (by first | assumption | exact (Below.refl _ _).drew) _)).mono ?_; rintro e w2 ⟨rfl, hb2⟩) | (refine (HK.out _ (by first | assumption | exact (Below.refl _ _).drew | exact keep_alloc (by first | assumption | exact (Below.refl _ _).drew) _)).mono ?_; rintro e w3 ⟨rfl, hb3⟩)))
  · go_wp2_with fail
    rw [HKD.out]
    refine bodyPost_ret (v := .tuple #[.slice (some ⟨w1.heap.size, 0, none⟩) 2 2, .slice (some ⟨w3.heap.size, 0, none⟩) 2 2, .bool true]) (by simp [results, Tryd.results67]) rfl ?_
    exact ⟨_, _, _, _, rfl, reads_two _ _ a b ((Blk.below (Blk.below (Blk.new w1.drew #[.int .i64 a, .int .i64 b] 3) hb2) hb3).alloc _), reads_two _ _ kd kd (Blk.new w3 #[.int .i64 kd, .int .i64 kd] 3), keep_below (by assumption) hBq⟩
  · go_wp2_with fail
    rw [HKD.out]
    refine bodyPost_ret (v := .tuple #[.slice (some ⟨w2.heap.size, 0, none⟩) 2 2, .slice (some ⟨w3.heap.size, 0, none⟩) 2 2, .bool true]) (by simp [results, Tryd.results67]) rfl ?_
    exact ⟨_, _, _, _, rfl, reads_two _ _ a b ((Blk.below (Blk.new w2 #[.int .i64 a, .int .i64 b] 3) hb3).alloc _), reads_two _ _ kd kd (Blk.new w3 #[.int .i64 kd, .int .i64 kd] 3), keep_below (by assumption) hBq⟩
  · go_wp2_with fail
    rw [HKD.out]
    refine bodyPost_ret (v := .tuple #[.slice (some ⟨w3.heap.size, 0, none⟩) 2 2, .slice (some ⟨w3.heap.size + 1, 0, none⟩) 2 2, .bool true]) (by simp [results, Tryd.results67]) rfl ?_
    exact ⟨_, _, _, _, rfl, reads_two _ _ a b ((Blk.new w3 #[.int .i64 a, .int .i64 b] 3).alloc _), reads_two _ _ kd kd (Blk.newAt (w3.alloc (.cells #[.int .i64 a, .int .i64 b] 3)) #[.int .i64 kd, .int .i64 kd] 3 (w3.heap.size + 1) (by simp)), keep_below (by assumption) hBq⟩
  · go_wp2_with fail
    rw [HKD.out]
    refine bodyPost_ret (v := .tuple #[.slice (some ⟨w3.heap.size + 1, 0, none⟩) 2 2, .slice (some ⟨w3.heap.size, 0, none⟩) 2 2, .bool true]) (by simp [results, Tryd.results67]) rfl ?_
    exact ⟨_, _, _, _, rfl, reads_two _ _ a b (Blk.newAt (w3.alloc (.cells #[.int .i64 kd, .int .i64 kd] 3)) #[.int .i64 a, .int .i64 b] 3 (w3.heap.size + 1) (by simp)), reads_two _ _ kd kd ((Blk.new w3 #[.int .i64 kd, .int .i64 kd] 3).alloc _), keep_below (by assumption) hBq⟩
end Go.Proofs.YtnnchinpmnpfiaaDoor
/- The reference's Kinds of a return and of a call. -/
namespace Go.Proofs.YtnnchinpmnpfiaaDoor
open Go.ChangeShapes Go.WideShapes Go.RowKit Words

set_option linter.unusedSimpArgs false in
set_option linter.unusedVariables false in
set_option maxRecDepth 100000 in
set_option maxHeartbeats 4000000 in
theorem rk_25 (S : Option Addr) (ns cs : Nat) (F : Option Addr) (nf cf : Nat) (N : Option Addr) (nn cn : Nat) (p : Int) (A : Option Addr) (n c : Nat) (r : Int) (B : Option Addr) (m d : Nat) (a b c' : Int) (k : BitVec 64) (w : World) :
    Calls Tryd.prog 67 #[prV S ns cs F nf cf N nn cn, fnV p A n c r B m d, insV ⟨25, a, b, c', k⟩] w (RetK w [a] [r] true) := by
  have hB0 : Below w.heap.size w (((w.alloc (.cells #[.slice S ns cs, .slice F nf cf, .slice N nn cn] 26)).alloc (.cells #[.int .i64 p, .slice A n c, .int .i64 r, .slice B m d] 44)).alloc (.cells #[.int .i64 25, .int .i64 a, .int .i64 b, .int .i64 c', .int .u64 (U k)] 55)) := keep_alloc (keep_alloc (keep_alloc (Below.refl _ _) _) _) _
  have X1 := (Blk.newAt (w.alloc (.cells #[.slice S ns cs, .slice F nf cf, .slice N nn cn] 26)) #[.int .i64 p, .slice A n c, .int .i64 r, .slice B m d] 44 (w.heap.size + 1) (by simp)).alloc (.cells #[.int .i64 25, .int .i64 a, .int .i64 b, .int .i64 c', .int .u64 (U k)] 55)
  go_enter Tryd.func67, Tryd.ntmps67
  go_wp2_with fail
  go_quiet (fail)
  go_upto_region 49 with fail
  have hBq := below_drewN hB0 nq
  have X1q := X1.drewN nq
  generalize World.drewN _ nq = w1 at hBq X1q ⊢
  have L2 : ∀ u, Below w1.heap.size w1 u → u.cell? ⟨w.heap.size + 1, 2, none⟩ = some (.int .i64 r) := fun u hu => (X1q.below hu).cell 2 _ rfl
  clear X1 X1q
  go_region_held3 (fun w' => Below w1.heap.size w1 w') (first | exact (Below.refl _ _).drew | exact keep_alloc (by assumption) _) (fail)
  · go_wp2_with fail
    refine bodyPost_ret (v := .tuple #[.slice (some ⟨w1.heap.size, 0, none⟩) 1 1, .slice (some ⟨w1.heap.size + 1, 0, none⟩) 1 1, .bool true]) (by simp [results, Tryd.results67]) rfl ?_
    have R1 := Reads.freshAt (World.drew w1) #[.int .i64 a] 3 1 1 (([a] : List Int).flatMap intCells) w1.heap.size rfl rfl rfl (by decide)
    have R2 := Reads.freshAt ((World.drew w1).alloc (.cells #[.int .i64 a] 3)) #[.int .i64 r] 3 1 1 (([r] : List Int).flatMap intCells) (w1.heap.size + 1) (by simp) rfl rfl (by decide)
    exact ⟨_, _, _, _, rfl, R1.belowU (keep_alloc (Below.refl _ _) _), R2, keep_alloc (keep_alloc hBq.drew _) _⟩
  · go_wp2_with fail
    refine bodyPost_ret (v := .tuple #[.slice (some ⟨w1.heap.size + 1, 0, none⟩) 1 1, .slice (some ⟨w1.heap.size, 0, none⟩) 1 1, .bool true]) (by simp [results, Tryd.results67]) rfl ?_
    have R1 := Reads.freshAt (World.drew w1) #[.int .i64 r] 3 1 1 (([r] : List Int).flatMap intCells) w1.heap.size rfl rfl rfl (by decide)
    have R2 := Reads.freshAt ((World.drew w1).alloc (.cells #[.int .i64 r] 3)) #[.int .i64 a] 3 1 1 (([a] : List Int).flatMap intCells) (w1.heap.size + 1) (by simp) rfl rfl (by decide)
    exact ⟨_, _, _, _, rfl, R2, R1.belowU (keep_alloc (Below.refl _ _) _), keep_alloc (keep_alloc hBq.drew _) _⟩
theorem rfew_any (k : Int) (v : Bool) (w : World) (h : fewB k = v) : Calls Tryd.prog 73 #[.int .i64 k] w fun e w' => e = .returned (.bool v) ∧ Below w.heap.size w w' := by
  subst h
  by_cases h0 : 0 ≤ k
  · have d0 : decide (0 ≤ k) = true := decide_eq_true h0
    by_cases h1 : k ≤ 3
    · have d1 : decide (k ≤ 3) = true := decide_eq_true h1
      have HV := Lib.hid (show fewB k = true from decide_eq_true ⟨h0, h1⟩)
      clear h0 h1
      go_enter Tryd.func73, Tryd.ntmps73
      go_wp2_with fail
      go_ret
      exact ⟨by rw [HV.out]; rfl, Below.refl _ _⟩
    · have d1 : decide (k ≤ 3) = false := decide_eq_false h1
      have HV := Lib.hid (show fewB k = false from decide_eq_false fun h => h1 h.2)
      clear h0 h1
      go_enter Tryd.func73, Tryd.ntmps73
      go_wp2_with fail
      go_ret
      exact ⟨by rw [HV.out]; rfl, Below.refl _ _⟩
  · have d0 : decide (0 ≤ k) = false := decide_eq_false h0
    have HV := Lib.hid (show fewB k = false from decide_eq_false fun h => h0 h.1)
    clear h0
    go_enter Tryd.func73, Tryd.ntmps73
    go_wp2_with fail
    go_ret
    exact ⟨by rw [HV.out]; rfl, Below.refl _ _⟩
set_option linter.unusedSimpArgs false in
set_option linter.unusedVariables false in
set_option maxRecDepth 100000 in
set_option maxHeartbeats 4000000 in
theorem rk_21_no (S : Option Addr) (ns cs : Nat) (F : Option Addr) (nf cf : Nat) (N : Option Addr) (nn cn : Nat) (p : Int) (A : Option Addr) (n c : Nat) (r : Int) (B : Option Addr) (m d : Nat) (a b c' : Int) (k : BitVec 64) (w : World) (hnf : nf ≤ 1000000) (hk : (nf : Int) ≤ U k) :
    Calls Tryd.prog 67 #[prV S ns cs F nf cf N nn cn, fnV p A n c r B m d, insV ⟨21, a, b, c', k⟩] w (RetK w [] [] false) := by
  have hB0 : Below w.heap.size w (((w.alloc (.cells #[.slice S ns cs, .slice F nf cf, .slice N nn cn] 26)).alloc (.cells #[.int .i64 p, .slice A n c, .int .i64 r, .slice B m d] 44)).alloc (.cells #[.int .i64 21, .int .i64 a, .int .i64 b, .int .i64 c', .int .u64 (U k)] 55)) := keep_alloc (keep_alloc (keep_alloc (Below.refl _ _) _) _) _
  have ws : IntKind.u64.wrap (nf : Int) = (nf : Int) := IntWalk.u64_in _ ⟨by omega, by omega⟩
  have hd : decide (U k < (nf : Int)) = false := decide_eq_false (by omega)
  clear hk
  go_enter Tryd.func67, Tryd.ntmps67
  go_wp2_with fail
  go_quiet (fail)
  go_wp2_with fail
  refine bodyPost_ret (v := .tuple #[.slice none 0 0, .slice none 0 0, .bool false]) (by simp [results, Tryd.results67]) rfl ?_
  exact ⟨none, 0, none, 0, rfl, Reads.nil, Reads.nil, below_drewN hB0 _⟩
set_option linter.unusedSimpArgs false in
set_option linter.unusedVariables false in
set_option maxRecDepth 100000 in
set_option maxHeartbeats 4000000 in
theorem rk_22_no (S : Option Addr) (ns cs : Nat) (F : Option Addr) (nf cf : Nat) (N : Option Addr) (nn cn : Nat) (p : Int) (A : Option Addr) (n c : Nat) (r : Int) (B : Option Addr) (m d : Nat) (a b c' : Int) (k : BitVec 64) (w : World) (hnn : nn ≤ 1000000) (hk : (nn : Int) ≤ U k) :
    Calls Tryd.prog 67 #[prV S ns cs F nf cf N nn cn, fnV p A n c r B m d, insV ⟨22, a, b, c', k⟩] w (RetK w [] [] false) := by
  have hB0 : Below w.heap.size w (((w.alloc (.cells #[.slice S ns cs, .slice F nf cf, .slice N nn cn] 26)).alloc (.cells #[.int .i64 p, .slice A n c, .int .i64 r, .slice B m d] 44)).alloc (.cells #[.int .i64 22, .int .i64 a, .int .i64 b, .int .i64 c', .int .u64 (U k)] 55)) := keep_alloc (keep_alloc (keep_alloc (Below.refl _ _) _) _) _
  have ws : IntKind.u64.wrap (nn : Int) = (nn : Int) := IntWalk.u64_in _ ⟨by omega, by omega⟩
  have hd : decide (U k < (nn : Int)) = false := decide_eq_false (by omega)
  clear hk
  go_enter Tryd.func67, Tryd.ntmps67
  go_wp2_with fail
  go_quiet (fail)
  go_wp2_with fail
  refine bodyPost_ret (v := .tuple #[.slice none 0 0, .slice none 0 0, .bool false]) (by simp [results, Tryd.results67]) rfl ?_
  exact ⟨none, 0, none, 0, rfl, Reads.nil, Reads.nil, below_drewN hB0 _⟩
end Go.Proofs.YtnnchinpmnpfiaaDoor

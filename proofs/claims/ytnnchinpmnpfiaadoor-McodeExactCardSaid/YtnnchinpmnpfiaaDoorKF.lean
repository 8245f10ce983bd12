/- The reference's Kinds of a call of a managed function, and of a native program. -/
import Derived.Test.YtnnchinpmnpfiaaDoorKE
namespace Go.Proofs.YtnnchinpmnpfiaaDoor
open Go.ChangeShapes Go.WideShapes Go.RowKit Words

set_option linter.unusedSimpArgs false in
set_option linter.unusedVariables false in
set_option maxRecDepth 100000 in
set_option maxHeartbeats 4000000 in
theorem rk_21_bad (S : Option Addr) (ns cs : Nat) (nf cf : Nat) (N : Option Addr) (nn cn : Nat) (p : Int) (A : Option Addr) (n c : Nat) (r : Int) (B : Option Addr) (m d : Nat) (a b c' : Int) (k : BitVec 64) (kn bf off : Nat) (gp : Int) (w : World) (hnf : nf ≤ 1000000) (hkn : U k = kn) (hk : kn < nf)
    (g0 : w.cell? ⟨bf, off + kn * 4, none⟩ = some (.int .i64 gp)) (hfew : fewB gp = false) :
    Calls Tryd.prog 67 #[prV S ns cs (some ⟨bf, off, none⟩) nf cf N nn cn, fnV p A n c r B m d, insV ⟨21, a, b, c', k⟩] w (RetK w [] [] false) := by
  unfold insV
  dsimp only
  rw [hkn]
  have hB0 : Below w.heap.size w (((w.alloc (.cells #[.slice S ns cs, .slice (some ⟨bf, off, none⟩) nf cf, .slice N nn cn] 26)).alloc (.cells #[.int .i64 p, .slice A n c, .int .i64 r, .slice B m d] 44)).alloc (.cells #[.int .i64 21, .int .i64 a, .int .i64 b, .int .i64 c', .int .u64 (kn : Int)] 55)) := keep_alloc (keep_alloc (keep_alloc (Below.refl _ _) _) _) _
  have y0 := fun q => keep_cell (below_drewN hB0 q) g0
  have ws : IntKind.u64.wrap (nf : Int) = (nf : Int) := IntWalk.u64_in _ ⟨by omega, by omega⟩
  have hd : decide ((kn : Int) < (nf : Int)) = true := decide_eq_true (by omega)
  have hd2 : decide (kn < nf) = true := decide_eq_true hk
  have hk0 : (0 : Int) ≤ (kn : Int) := by omega
  have hk1 : (kn : Int) < (nf : Int) := by omega
  have HF := Lib.hid hfew
  clear hk hkn g0 hfew
  go_enter Tryd.func67, Tryd.ntmps67
  go_wp2_with fail
  go_quiet (fail)
  go_wp2_with fail
  refine (rfew_any gp false _ HF.out).mono ?_
  rintro e w2 ⟨rfl, hb2⟩
  have hB2 := keep_below hb2 (below_drewN hB0 nq)
  clear y0 hb2
  go_wp2_with fail
  refine bodyPost_ret (v := .tuple #[.slice none 0 0, .slice none 0 0, .bool false]) (by simp [results, Tryd.results67]) rfl ?_
  exact ⟨none, 0, none, 0, rfl, Reads.nil, Reads.nil, hB2⟩
set_option linter.unusedSimpArgs false in
set_option linter.unusedVariables false in
set_option maxRecDepth 100000 in
set_option maxHeartbeats 4000000 in
theorem rk_21_fn (S : Option Addr) (ns cs : Nat) (nf cf : Nat) (N : Option Addr) (nn cn : Nat) (p : Int) (A : Option Addr) (n c : Nat) (r : Int) (B : Option Addr) (m d : Nat) (a b c' : Int) (k : BitVec 64) (kn bf off : Nat) (q : Nat) (GA : Option Addr) (gn gc : Nat) (gr : Int) (GB : Option Addr) (gm gd : Nat) (gl : List Int) (w : World) (hnf : nf ≤ 1000000) (hkn : U k = kn) (hk : kn < nf) (hq : q ≤ 3)
    (g0 : w.cell? ⟨bf, off + kn * 4, none⟩ = some (.int .i64 q)) (g1 : w.cell? ⟨bf, off + kn * 4 + 1, none⟩ = some (.slice GA gn gc)) (g2 : w.cell? ⟨bf, off + kn * 4 + 2, none⟩ = some (.int .i64 gr)) (g3 : w.cell? ⟨bf, off + kn * 4 + 3, none⟩ = some (.slice GB gm gd)) (hG : Reads w w.heap.size 1 GA gn gc (gl.flatMap intCells)) :
    Calls Tryd.prog 67 #[prV S ns cs (some ⟨bf, off, none⟩) nf cf N nn cn, fnV p A n c r B m d, insV ⟨21, a, b, c', k⟩] w (RetK w (locL a b q) (kdL gr (fun (i : Nat) => kindL gl (i : Int)) q) true) := by
  unfold insV
  dsimp only
  rw [hkn]
  have hB0 : Below w.heap.size w (((w.alloc (.cells #[.slice S ns cs, .slice (some ⟨bf, off, none⟩) nf cf, .slice N nn cn] 26)).alloc (.cells #[.int .i64 p, .slice A n c, .int .i64 r, .slice B m d] 44)).alloc (.cells #[.int .i64 21, .int .i64 a, .int .i64 b, .int .i64 c', .int .u64 (kn : Int)] 55)) := keep_alloc (keep_alloc (keep_alloc (Below.refl _ _) _) _) _
  have X0 := ((Blk.new w #[.slice S ns cs, .slice (some ⟨bf, off, none⟩) nf cf, .slice N nn cn] 26).alloc (.cells #[.int .i64 p, .slice A n c, .int .i64 r, .slice B m d] 44)).alloc (.cells #[.int .i64 21, .int .i64 a, .int .i64 b, .int .i64 c', .int .u64 (kn : Int)] 55)
  have X2 := Blk.newAt ((w.alloc (.cells #[.slice S ns cs, .slice (some ⟨bf, off, none⟩) nf cf, .slice N nn cn] 26)).alloc (.cells #[.int .i64 p, .slice A n c, .int .i64 r, .slice B m d] 44)) #[.int .i64 21, .int .i64 a, .int .i64 b, .int .i64 c', .int .u64 (kn : Int)] 55 (w.heap.size + 1 + 1) (by simp)
  have y0 := fun q => keep_cell (below_drewN hB0 q) g0
  have ws : IntKind.u64.wrap (nf : Int) = (nf : Int) := IntWalk.u64_in _ ⟨by omega, by omega⟩
  have hd : decide ((kn : Int) < (nf : Int)) = true := decide_eq_true (by omega)
  have hd2 : decide (kn < nf) = true := decide_eq_true hk
  have hk0 : (0 : Int) ≤ (kn : Int) := by omega
  have hk1 : (kn : Int) < (nf : Int) := by omega
  have HF := Lib.hid (show fewB (q : Int) = true from decide_eq_true ⟨by omega, by omega⟩)
  have HQ := Lib.hid hq
  clear hk hkn hq
  go_enter Tryd.func67, Tryd.ntmps67
  go_wp2_with fail
  go_quiet (fail)
  go_wp2_with fail
  refine (rfew_any (q : Int) true _ HF.out).mono ?_
  rintro e w2 ⟨rfl, hb2⟩
  have hB2 := keep_below hb2 (below_drewN hB0 nq)
  have Y0 := (X0.drewN nq).below hb2
  have Y2 := (X2.drewN nq).below hb2
  obtain ⟨g, hg⟩ : ∃ g, w.heap.size = g := ⟨_, rfl⟩
  have HG := Lib.hid hg
  rw [hg] at Y0 Y2 ⊢
  have c0 := keep_cell hB2 g0
  have c1 := keep_cell hB2 g1
  have c2 := keep_cell hB2 g2
  have c3 := keep_cell hB2 g3
  have z1 := Y0.cell 1 _ rfl
  have z4 := Y2.cell 4 _ rfl
  have HA := Lib.hid (args_any a b gr q (q : Int) GA gn gc gr GB gm gd gl (w2.alloc (.cells #[.int .i64 q, .slice GA gn gc, .int .i64 gr, .slice GB gm gd] 44)) ((hG.belowU hB2).belowU (keep_alloc (Below.refl _ _) _)) HQ.out)
  obtain ⟨l1, hl1⟩ : ∃ l1, (locL a b q).length = l1 := ⟨_, rfl⟩
  obtain ⟨l2, hl2⟩ : ∃ l2, (kdL gr (fun (i : Nat) => kindL gl (i : Int)) q).length = l2 := ⟨_, rfl⟩
  have HL1 := Lib.hid hl1
  have HL2 := Lib.hid hl2
  clear y0 hb2 hg g0 g1 g2 g3 X0 X2 hG hl1 hl2
  go_wp2_with fail
  refine HA.out.mono ?_
  rintro e w3 ⟨A1, c1', B1, d1, rfl, r1, r2, hb3⟩
  have t1 := HL1.out
  have t2 := HL2.out
  rw [t1] at r1 ⊢
  rw [t2] at r2 ⊢
  clear t1 t2 c0 c1 c2 c3 z1 z4 HA
  go_wp2_with fail
  refine bodyPost_ret (v := .tuple #[.slice A1 l1 c1', .slice B1 l2 d1, .bool true]) (by simp [results, Tryd.results67]) rfl ?_
  exact ⟨A1, c1', B1, d1, by rw [HL1.out, HL2.out], by rw [HL1.out]; exact r1, by rw [HL2.out]; exact r2, keep_below hb3 (keep_alloc hB2 _)⟩
set_option linter.unusedSimpArgs false in
set_option linter.unusedVariables false in
set_option maxRecDepth 100000 in
set_option maxHeartbeats 4000000 in
theorem rk_22_bad (S : Option Addr) (ns cs : Nat) (F : Option Addr) (nf cf : Nat) (nn cn : Nat) (p : Int) (A : Option Addr) (n c : Nat) (r : Int) (B : Option Addr) (m d : Nat) (a b c' : Int) (k : BitVec 64) (kn bf off : Nat) (gp : Int) (w : World) (hnn : nn ≤ 1000000) (hkn : U k = kn) (hk : kn < nn)
    (g0 : w.cell? ⟨bf, off + kn, none⟩ = some (.int .i64 gp)) (hfew : fewB gp = false) :
    Calls Tryd.prog 67 #[prV S ns cs F nf cf (some ⟨bf, off, none⟩) nn cn, fnV p A n c r B m d, insV ⟨22, a, b, c', k⟩] w (RetK w [] [] false) := by
  unfold insV
  dsimp only
  rw [hkn]
  have hB0 : Below w.heap.size w (((w.alloc (.cells #[.slice S ns cs, .slice F nf cf, .slice (some ⟨bf, off, none⟩) nn cn] 26)).alloc (.cells #[.int .i64 p, .slice A n c, .int .i64 r, .slice B m d] 44)).alloc (.cells #[.int .i64 22, .int .i64 a, .int .i64 b, .int .i64 c', .int .u64 (kn : Int)] 55)) := keep_alloc (keep_alloc (keep_alloc (Below.refl _ _) _) _) _
  have y0 := fun q => keep_cell (below_drewN hB0 q) g0
  have ws : IntKind.u64.wrap (nn : Int) = (nn : Int) := IntWalk.u64_in _ ⟨by omega, by omega⟩
  have hd : decide ((kn : Int) < (nn : Int)) = true := decide_eq_true (by omega)
  have hd2 : decide (kn < nn) = true := decide_eq_true hk
  have hk0 : (0 : Int) ≤ (kn : Int) := by omega
  have hk1 : (kn : Int) < (nn : Int) := by omega
  have HF := Lib.hid hfew
  clear hk hkn g0 hfew
  go_enter Tryd.func67, Tryd.ntmps67
  go_wp2_with fail
  go_quiet (fail)
  go_wp2_with fail
  refine (rfew_any gp false _ HF.out).mono ?_
  rintro e w2 ⟨rfl, hb2⟩
  have hB2 := keep_below hb2 (below_drewN hB0 nq)
  clear y0 hb2
  go_wp2_with fail
  refine bodyPost_ret (v := .tuple #[.slice none 0 0, .slice none 0 0, .bool false]) (by simp [results, Tryd.results67]) rfl ?_
  exact ⟨none, 0, none, 0, rfl, Reads.nil, Reads.nil, hB2⟩
set_option linter.unusedSimpArgs false in
set_option linter.unusedVariables false in
set_option maxRecDepth 100000 in
set_option maxHeartbeats 4000000 in
theorem rk_22_nat (S : Option Addr) (ns cs : Nat) (F : Option Addr) (nf cf : Nat) (nn cn : Nat) (p : Int) (A : Option Addr) (n c : Nat) (r : Int) (B : Option Addr) (m d : Nat) (locs : List Int) (a b c' : Int) (k : BitVec 64) (kn bf off : Nat) (q : Nat) (w : World) (hnn : nn ≤ 1000000) (hkn : U k = kn) (hk : kn < nn) (hq : q ≤ 3)
    (g0 : w.cell? ⟨bf, off + kn, none⟩ = some (.int .i64 q)) (hA : Reads w w.heap.size 1 A n c (locs.flatMap intCells)) :
    Calls Tryd.prog 67 #[prV S ns cs F nf cf (some ⟨bf, off, none⟩) nn cn, fnV p A n c r B m d, insV ⟨22, a, b, c', k⟩] w (RetK w (locL a b q) (kdL 1 (fun (i : Nat) => kindL (shiftL locs b 3) (i : Int)) q) true) := by
  unfold insV
  dsimp only
  rw [hkn]
  have hB0 : Below w.heap.size w (((w.alloc (.cells #[.slice S ns cs, .slice F nf cf, .slice (some ⟨bf, off, none⟩) nn cn] 26)).alloc (.cells #[.int .i64 p, .slice A n c, .int .i64 r, .slice B m d] 44)).alloc (.cells #[.int .i64 22, .int .i64 a, .int .i64 b, .int .i64 c', .int .u64 (kn : Int)] 55)) := keep_alloc (keep_alloc (keep_alloc (Below.refl _ _) _) _) _
  have X0 := ((Blk.new w #[.slice S ns cs, .slice F nf cf, .slice (some ⟨bf, off, none⟩) nn cn] 26).alloc (.cells #[.int .i64 p, .slice A n c, .int .i64 r, .slice B m d] 44)).alloc (.cells #[.int .i64 22, .int .i64 a, .int .i64 b, .int .i64 c', .int .u64 (kn : Int)] 55)
  have X1 := (Blk.newAt (w.alloc (.cells #[.slice S ns cs, .slice F nf cf, .slice (some ⟨bf, off, none⟩) nn cn] 26)) #[.int .i64 p, .slice A n c, .int .i64 r, .slice B m d] 44 (w.heap.size + 1) (by simp)).alloc (.cells #[.int .i64 22, .int .i64 a, .int .i64 b, .int .i64 c', .int .u64 (kn : Int)] 55)
  have X2 := Blk.newAt ((w.alloc (.cells #[.slice S ns cs, .slice F nf cf, .slice (some ⟨bf, off, none⟩) nn cn] 26)).alloc (.cells #[.int .i64 p, .slice A n c, .int .i64 r, .slice B m d] 44)) #[.int .i64 22, .int .i64 a, .int .i64 b, .int .i64 c', .int .u64 (kn : Int)] 55 (w.heap.size + 1 + 1) (by simp)
  have y0 := fun q => keep_cell (below_drewN hB0 q) g0
  have ws : IntKind.u64.wrap (nn : Int) = (nn : Int) := IntWalk.u64_in _ ⟨by omega, by omega⟩
  have hd : decide ((kn : Int) < (nn : Int)) = true := decide_eq_true (by omega)
  have hd2 : decide (kn < nn) = true := decide_eq_true hk
  have hk0 : (0 : Int) ≤ (kn : Int) := by omega
  have hk1 : (kn : Int) < (nn : Int) := by omega
  have HF := Lib.hid (show fewB (q : Int) = true from decide_eq_true ⟨by omega, by omega⟩)
  have HQ := Lib.hid hq
  clear hk hkn hq
  go_enter Tryd.func67, Tryd.ntmps67
  go_wp2_with fail
  go_quiet (fail)
  go_wp2_with fail
  refine (rfew_any (q : Int) true _ HF.out).mono ?_
  rintro e w2 ⟨rfl, hb2⟩
  have hB2 := keep_below hb2 (below_drewN hB0 nq)
  have Y0 := (X0.drewN nq).below hb2
  have Y1 := (X1.drewN nq).below hb2
  have Y2 := (X2.drewN nq).below hb2
  clear y0 hb2 X0 X1 X2
  go_upto_region 47 with fail
  obtain ⟨g, hg⟩ : ∃ g, w.heap.size = g := ⟨_, rfl⟩
  have HG := Lib.hid hg
  rw [hg] at Y0 Y1 Y2 ⊢
  have z2 : ∀ u, Below w2.heap.size w2 u → u.cell? ⟨g, 2, none⟩ = some (.slice (some ⟨bf, off, none⟩) nn cn) := fun u hu => (Y0.below hu).cell 2 _ rfl
  have z4 : ∀ u, Below w2.heap.size w2 u → u.cell? ⟨g + 1 + 1, 4, none⟩ = some (.int .u64 (kn : Int)) := fun u hu => (Y2.below hu).cell 4 _ rfl
  have c0 : ∀ u, Below w2.heap.size w2 u → u.cell? ⟨bf, off + kn, none⟩ = some (.int .i64 q) := fun u hu => keep_cell hu (keep_cell hB2 g0)
  have f0 : ∀ u, Below w2.heap.size w2 u → u.cell? ⟨g + 1, 0, none⟩ = some (.int .i64 p) := fun u hu => (Y1.below hu).cell 0 _ rfl
  have f1 : ∀ u, Below w2.heap.size w2 u → u.cell? ⟨g + 1, 1, none⟩ = some (.slice A n c) := fun u hu => (Y1.below hu).cell 1 _ rfl
  have f2 : ∀ u, Below w2.heap.size w2 u → u.cell? ⟨g + 1, 2, none⟩ = some (.int .i64 r) := fun u hu => (Y1.below hu).cell 2 _ rfl
  have f3 : ∀ u, Below w2.heap.size w2 u → u.cell? ⟨g + 1, 3, none⟩ = some (.slice B m d) := fun u hu => (Y1.below hu).cell 3 _ rfl
  have hA2 := hA.belowU hB2
  have HS := Lib.hid (show ∀ u, Below w2.heap.size w2 u → Calls Tryd.prog 75 #[fnV p A n c r B m d, .int .i64 b] u (RetInts u (shiftL locs b 3)) from fun u hu => shifted_any b p A n c r B m d locs u (hA2.belowU hu))
  have HA := Lib.hid (show ∀ (SA : Option Addr) (sc : Nat) u, Reads u u.heap.size 1 SA (shiftL locs b 3).length sc ((shiftL locs b 3).flatMap intCells) → Calls Tryd.prog 74 #[.int .i64 a, .int .i64 b, .int .i64 1, .int .i64 q, fnV 0 SA (shiftL locs b 3).length sc 0 none 0 0] u (RetK u (locL a b q) (kdL 1 (fun (i : Nat) => kindL (shiftL locs b 3) (i : Int)) q) true) from fun SA sc u hu => args_any a b 1 q 0 SA _ sc 0 none 0 0 _ u hu HQ.out)
  obtain ⟨l0, hl0⟩ : ∃ l0, (shiftL locs b 3).length = l0 := ⟨_, rfl⟩
  obtain ⟨l1, hl1⟩ : ∃ l1, (locL a b q).length = l1 := ⟨_, rfl⟩
  obtain ⟨l2, hl2⟩ : ∃ l2, (kdL 1 (fun (i : Nat) => kindL (shiftL locs b 3) (i : Int)) q).length = l2 := ⟨_, rfl⟩
  rw [hl0] at HA
  have HL0 := Lib.hid hl0
  have HL1 := Lib.hid hl1
  have HL2 := Lib.hid hl2
  clear hg g0 hA hA2 hl0 hl1 hl2 Y0 Y1 Y2
  go_region_held3 (fun w' => Below w2.heap.size w2 w') (first | assumption | exact (Below.refl _ _).drew | exact keep_below (by assumption) (by first | assumption | exact (Below.refl _ _).drew)) (first
    | (go_at_call 75; refine (HS.out _ (Below.refl _ _).drew).mono ?_; rintro e w3 ⟨SA, sc, rfl, hs, hb3⟩; have t0 := HL0.out; rw [t0] at hs ⊢; clear t0; have hS3 : Below w2.heap.size w2 w3 := keep_below hb3 (Below.refl _ _).drew)
    | (go_at_call 74; refine (HA.out SA sc w3 hs).mono ?_; rintro e w4 ⟨A1, c1', B1, d1, rfl, r1, r2, hb4⟩; have t1 := HL1.out; have t2 := HL2.out; rw [t1] at r1 ⊢; rw [t2] at r2 ⊢; clear t1 t2; have hS4 : Below w2.heap.size w2 w4 := keep_below hb4 hS3))
  go_wp2_with fail
  refine bodyPost_ret (v := .tuple #[.slice A1 l1 c1', .slice B1 l2 d1, .bool true]) (by simp [results, Tryd.results67]) rfl ?_
  exact ⟨A1, c1', B1, d1, by rw [HL1.out, HL2.out], by rw [HL1.out]; exact r1, by rw [HL2.out]; exact r2, keep_below hS4 hB2⟩
end Go.Proofs.YtnnchinpmnpfiaaDoor
/- The reference's Kinds, whatever the program, the function and the instruction. PRINTED BY A PROGRAM (mk_m32.py). -/
namespace Go.Proofs.YtnnchinpmnpfiaaDoor
open Go.ChangeShapes Go.WideShapes Go.RowKit Words

theorem shift_at (locs : List Int) (b : Int) (i : Nat) (hi : i < 3) : kindL (shiftL locs b 3) (i : Int) = kindL locs (IntKind.i64.wrap (b + (i : Int))) := by
  obtain ⟨v, hv⟩ : ∃ v : Nat → Int, (fun (i : Nat) => kindL locs (IntKind.i64.wrap (b + (i : Int)))) = v := ⟨_, rfl⟩
  have hv2 : kindL locs (IntKind.i64.wrap (b + (i : Int))) = v i := by rw [← hv]
  rw [hv2]
  unfold kindL shiftL
  rw [if_pos (by omega), hv, Int.toNat_natCast, List.getElem?_map, List.getElem?_range hi]
  rfl
theorem shift_kd (locs : List Int) (b : Int) (q : Nat) (hq : q ≤ 3) : kdL 1 (fun (i : Nat) => kindL (shiftL locs b 3) (i : Int)) q = kdL 1 (fun (i : Nat) => kindL locs (IntKind.i64.wrap (b + (i : Int)))) q := by
  unfold kdL
  congr 1
  refine List.map_congr_left fun i hi => ?_
  rw [List.mem_range] at hi
  exact shift_at locs b i (by omega)
set_option maxRecDepth 100000 in
set_option maxHeartbeats 4000000 in
/-- the reference's Kinds -/
theorem rkinds_any (S : Option Addr) (ns cs : Nat) (F : Option Addr) (nf cf : Nat) (N : Option Addr) (nn cn : Nat) (P : Prg) (fcs : List FC) (p : Int) (A : Option Addr) (n c : Nat) (r : Int) (B : Option Addr) (m d : Nat) (locs : List Int) (x : NI) (w : World)
    (hR : PrAt w S ns cs F nf cf N nn cn P fcs) (hA : Reads w w.heap.size 1 A n c (locs.flatMap intCells)) (hns : ns ≤ 1000000) (hnf : nf ≤ 1000000) (hnn : nn ≤ 1000000) (hm : m ≤ 1000000) :
    Calls Tryd.prog 67 #[prV S ns cs F nf cf N nn cn, fnV p A n c r B m d, insV x] w (RetK w (kindsS ns m P.fns P.nats locs r x).1 (kindsS ns m P.fns P.nats locs r x).2.1 (kindsS ns m P.fns P.nats locs r x).2.2) := by
  obtain ⟨op, a, b, c', k⟩ := x
  obtain ⟨kn, hkn⟩ : ∃ kn : Nat, U k = kn := ⟨(U k).toNat, by have := U_nonneg k; omega⟩
  have hlf := hR.fns.length fcCells_len (by omega)
  have hln := hR.nats.length (f := intCells) (fun _ => rfl) (by omega)
  by_cases hop : 1 ≤ op ∧ op ≤ 25
  · have ho : op = 1 ∨ op = 2 ∨ op = 3 ∨ op = 4 ∨ op = 5 ∨ op = 6 ∨ op = 7 ∨ op = 8 ∨ op = 9 ∨ op = 10 ∨ op = 11 ∨ op = 12 ∨ op = 13 ∨ op = 14 ∨ op = 15 ∨ op = 16 ∨ op = 17 ∨ op = 18 ∨ op = 19 ∨ op = 20 ∨ op = 21 ∨ op = 22 ∨ op = 23 ∨ op = 24 ∨ op = 25 := by omega
    rcases ho with rfl | rfl | rfl | rfl | rfl | rfl | rfl | rfl | rfl | rfl | rfl | rfl | rfl | rfl | rfl | rfl | rfl | rfl | rfl | rfl | rfl | rfl | rfl | rfl | rfl
    · exact kinds_via _ _ _ _ _ _ _ _ _ _ _ _ [a] [1] _ _ true _ (by rfl) (rk_1 S ns cs F nf cf N nn cn p A n c r B m d a b c' k w)
    · exact kinds_via _ _ _ _ _ _ _ _ _ _ _ _ [a, b] [kindL locs a, kindL locs a] _ _ true _ (by rfl) (rk_2 S ns cs F nf cf N nn cn p A n c r B m d locs a b c' k w hA)
    · exact kinds_via _ _ _ _ _ _ _ _ _ _ _ _ [a] [2] _ _ true _ (by rfl) (rk_3 S ns cs F nf cf N nn cn p A n c r B m d a b c' k w)
    · exact kinds_via _ _ _ _ _ _ _ _ _ _ _ _ [a, b, c'] [1, 1, 1] _ _ true _ (by rfl) (rk_4 S ns cs F nf cf N nn cn p A n c r B m d a b c' k w)
    · exact kinds_via _ _ _ _ _ _ _ _ _ _ _ _ [a, b, c'] [1, 1, 1] _ _ true _ (by rfl) (rk_5 S ns cs F nf cf N nn cn p A n c r B m d a b c' k w)
    · exact kinds_via _ _ _ _ _ _ _ _ _ _ _ _ [a, b, c'] [1, 1, 1] _ _ true _ (by rfl) (rk_6 S ns cs F nf cf N nn cn p A n c r B m d a b c' k w)
    · exact kinds_via _ _ _ _ _ _ _ _ _ _ _ _ [a, b, c'] [1, 1, 1] _ _ true _ (by rfl) (rk_7 S ns cs F nf cf N nn cn p A n c r B m d a b c' k w)
    · exact kinds_via _ _ _ _ _ _ _ _ _ _ _ _ [a, b, c'] [1, 1, 1] _ _ true _ (by rfl) (rk_8 S ns cs F nf cf N nn cn p A n c r B m d a b c' k w)
    · exact kinds_via _ _ _ _ _ _ _ _ _ _ _ _ [a, b] [1, 2] _ _ true _ (by rfl) (rk_9 S ns cs F nf cf N nn cn p A n c r B m d a b c' k w)
    · exact kinds_via _ _ _ _ _ _ _ _ _ _ _ _ [a, b, c'] [1, 2, 2] _ _ true _ (by rfl) (rk_10 S ns cs F nf cf N nn cn p A n c r B m d a b c' k w)
    · by_cases hk : (m : Int) ≤ U k
      · refine kinds_via _ _ _ _ _ _ _ _ _ _ _ _ [] [] _ _ false _ (by
        show kindsS ns m P.fns P.nats locs r ⟨11, a, b, c', k⟩ = _
        unfold kindsS
        rw [if_neg (show ¬ _ from by simp), if_neg (show ¬ _ from by simp), if_neg (show ¬ _ from by simp), if_neg (show ¬ _ from by simp), if_pos (Or.inr (Or.inl ⟨rfl, hk⟩))]) ?_
        have := rk_11 S ns cs F nf cf N nn cn p A n c r B m d a b c' k w hm
        rw [decide_eq_false (by omega)] at this
        exact this
      · refine kinds_via _ _ _ _ _ _ _ _ _ _ _ _ [] [] _ _ true _ (by
        show kindsS ns m P.fns P.nats locs r ⟨11, a, b, c', k⟩ = _
        unfold kindsS
        rw [if_neg (show ¬ _ from by simp), if_neg (show ¬ _ from by simp), if_neg (show ¬ _ from by simp), if_neg (show ¬ _ from by simp), if_neg (show ¬ _ from by simp; omega)]
        rfl) ?_
        have := rk_11 S ns cs F nf cf N nn cn p A n c r B m d a b c' k w hm
        rw [decide_eq_true (by omega)] at this
        exact this
    · by_cases hk : (m : Int) ≤ U k
      · exact kinds_via _ _ _ _ _ _ _ _ _ _ _ _ [] [] _ _ false _ (by
        show kindsS ns m P.fns P.nats locs r ⟨12, a, b, c', k⟩ = _
        unfold kindsS
        rw [if_neg (show ¬ _ from by simp), if_neg (show ¬ _ from by simp), if_neg (show ¬ _ from by simp), if_neg (show ¬ _ from by simp), if_pos (Or.inr (Or.inr ⟨rfl, hk⟩))]) (rk_12_no S ns cs F nf cf N nn cn p A n c r B m d a b c' k w hm hk)
      · exact kinds_via _ _ _ _ _ _ _ _ _ _ _ _ [a] [1] _ _ true _ (by
        show kindsS ns m P.fns P.nats locs r ⟨12, a, b, c', k⟩ = _
        unfold kindsS
        rw [if_neg (show ¬ _ from by simp), if_neg (show ¬ _ from by simp), if_neg (show ¬ _ from by simp), if_neg (show ¬ _ from by simp), if_neg (show ¬ _ from by simp; omega)]
        rfl) (rk_12 S ns cs F nf cf N nn cn p A n c r B m d a b c' k w hm (by omega))
    · by_cases hk : (ns : Int) ≤ U k
      · exact kinds_via _ _ _ _ _ _ _ _ _ _ _ _ [] [] _ _ false _ (by
        show kindsS ns m P.fns P.nats locs r ⟨13, a, b, c', k⟩ = _
        unfold kindsS
        rw [if_neg (show ¬ _ from by simp), if_neg (show ¬ _ from by simp), if_neg (show ¬ _ from by simp), if_neg (show ¬ _ from by simp), if_pos (Or.inl ⟨rfl, hk⟩)]) (rk_13_no S ns cs F nf cf N nn cn p A n c r B m d a b c' k w hns hk)
      · exact kinds_via _ _ _ _ _ _ _ _ _ _ _ _ [a] [2] _ _ true _ (by
        show kindsS ns m P.fns P.nats locs r ⟨13, a, b, c', k⟩ = _
        unfold kindsS
        rw [if_neg (show ¬ _ from by simp), if_neg (show ¬ _ from by simp), if_neg (show ¬ _ from by simp), if_neg (show ¬ _ from by simp), if_neg (show ¬ _ from by simp; omega)]
        rfl) (rk_13 S ns cs F nf cf N nn cn p A n c r B m d a b c' k w hns (by omega))
    · exact kinds_via _ _ _ _ _ _ _ _ _ _ _ _ [a, b] [2, 1] _ _ true _ (by rfl) (rk_14 S ns cs F nf cf N nn cn p A n c r B m d a b c' k w)
    · exact kinds_via _ _ _ _ _ _ _ _ _ _ _ _ [a, b] [2, 1] _ _ true _ (by rfl) (rk_15 S ns cs F nf cf N nn cn p A n c r B m d a b c' k w)
    · exact kinds_via _ _ _ _ _ _ _ _ _ _ _ _ [a, b] [1, 2] _ _ true _ (by rfl) (rk_16 S ns cs F nf cf N nn cn p A n c r B m d a b c' k w)
    · exact kinds_via _ _ _ _ _ _ _ _ _ _ _ _ [a, b, c'] [1, 2, 1] _ _ true _ (by rfl) (rk_17 S ns cs F nf cf N nn cn p A n c r B m d a b c' k w)
    · exact kinds_via _ _ _ _ _ _ _ _ _ _ _ _ [a, b, c'] [2, 1, 1] _ _ true _ (by rfl) (rk_18 S ns cs F nf cf N nn cn p A n c r B m d a b c' k w)
    · exact kinds_via _ _ _ _ _ _ _ _ _ _ _ _ [a, b, c'] [2, 2, 1] _ _ true _ (by rfl) (rk_19 S ns cs F nf cf N nn cn p A n c r B m d a b c' k w)
    · exact kinds_via _ _ _ _ _ _ _ _ _ _ _ _ [a, b, c'] [2, 1, 2] _ _ true _ (by rfl) (rk_20 S ns cs F nf cf N nn cn p A n c r B m d a b c' k w)
    · by_cases hk : kn < nf
      · obtain ⟨bf, off, fc, rfl, -, hfc, hcl⟩ := hR.fns.elem fcCells_len (by omega) hk
        have hkl : kn < P.fns.length := by have := hR.each.1; omega
        obtain ⟨g, hg⟩ : ∃ g, P.fns[kn]? = some g := ⟨_, List.getElem?_eq_getElem hkl⟩
        have hat := hR.each.2 kn fc g hfc hg
        have c0 := hcl 0 _ rfl
        have c1 := hcl 1 _ rfl
        have c2 := hcl 2 _ rfl
        have c3 := hcl 3 _ rfl
        rw [Nat.add_zero] at c0
        rw [hat.p] at c0
        rw [hat.r] at c2
        cases hfew : fewB g.p with
        | true =>
          obtain ⟨q, hq, hq3⟩ := few_nat hfew
          rw [hq] at c0
          exact kinds_via _ _ _ _ _ _ _ _ _ _ _ _ (locL a b q) (kdL g.r (fun (i : Nat) => kindL g.locs (i : Int)) q) _ _ true _ (by
          show kindsS ns m P.fns P.nats locs r ⟨21, a, b, c', k⟩ = _
          unfold kindsS
          rw [if_neg (show ¬ _ from by simp), if_neg (show ¬ _ from by simp), if_pos rfl]
          dsimp only
          rw [hkn, Int.toNat_natCast, hg]
          dsimp only
          rw [hfew, if_pos rfl, hq]
          rfl) (rk_21_fn S ns cs nf cf N nn cn p A n c r B m d a b c' k kn bf off q fc.A fc.n fc.c g.r fc.B fc.m fc.e g.locs w hnf hkn hk hq3 c0 c1 c2 c3 hat.locs)
        | false =>
          exact kinds_via _ _ _ _ _ _ _ _ _ _ _ _ [] [] _ _ false _ (by
          show kindsS ns m P.fns P.nats locs r ⟨21, a, b, c', k⟩ = _
          unfold kindsS
          rw [if_neg (show ¬ _ from by simp), if_neg (show ¬ _ from by simp), if_pos rfl]
          dsimp only
          rw [hkn, Int.toNat_natCast, hg]
          dsimp only
          rw [hfew]
          rfl) (rk_21_bad S ns cs nf cf N nn cn p A n c r B m d a b c' k kn bf off g.p w hnf hkn hk c0 hfew)
      · have hg : P.fns[kn]? = none := List.getElem?_eq_none (by have := hR.each.1; omega)
        exact kinds_via _ _ _ _ _ _ _ _ _ _ _ _ [] [] _ _ false _ (by
          show kindsS ns m P.fns P.nats locs r ⟨21, a, b, c', k⟩ = _
          unfold kindsS
          rw [if_neg (show ¬ _ from by simp), if_neg (show ¬ _ from by simp), if_pos rfl]
          dsimp only
          rw [hkn, Int.toNat_natCast, hg]) (rk_21_no S ns cs F nf cf N nn cn p A n c r B m d a b c' k w hnf (by omega))
    · by_cases hk : kn < nn
      · obtain ⟨bf, off, g, rfl, -, hg, hcl⟩ := hR.nats.elem (f := intCells) (fun _ => rfl) (by omega) hk
        have c0 := hcl 0 _ rfl
        rw [Nat.mul_one, Nat.add_zero] at c0
        cases hfew : fewB g with
        | true =>
          obtain ⟨q, hq, hq3⟩ := few_nat hfew
          rw [hq] at c0
          refine kinds_via _ _ _ _ _ _ _ _ _ _ _ _ (locL a b q) (kdL 1 (fun (i : Nat) => kindL locs (IntKind.i64.wrap (b + (i : Int)))) q) _ _ true _ (by
          show kindsS ns m P.fns P.nats locs r ⟨22, a, b, c', k⟩ = _
          unfold kindsS
          rw [if_neg (show ¬ _ from by simp), if_neg (show ¬ _ from by simp), if_neg (show ¬ _ from by simp), if_pos rfl]
          dsimp only
          rw [hkn, Int.toNat_natCast, hg]
          dsimp only
          rw [hfew, if_pos rfl, hq]
          rfl) ?_
          rw [← shift_kd locs b q hq3]
          exact rk_22_nat S ns cs F nf cf nn cn p A n c r B m d locs a b c' k kn bf off q w hnn hkn hk hq3 c0 hA
        | false =>
          exact kinds_via _ _ _ _ _ _ _ _ _ _ _ _ [] [] _ _ false _ (by
          show kindsS ns m P.fns P.nats locs r ⟨22, a, b, c', k⟩ = _
          unfold kindsS
          rw [if_neg (show ¬ _ from by simp), if_neg (show ¬ _ from by simp), if_neg (show ¬ _ from by simp), if_pos rfl]
          dsimp only
          rw [hkn, Int.toNat_natCast, hg]
          dsimp only
          rw [hfew]
          rfl) (rk_22_bad S ns cs F nf cf nn cn p A n c r B m d a b c' k kn bf off g w hnn hkn hk c0 hfew)
      · have hg : P.nats[kn]? = none := List.getElem?_eq_none (by omega)
        exact kinds_via _ _ _ _ _ _ _ _ _ _ _ _ [] [] _ _ false _ (by
          show kindsS ns m P.fns P.nats locs r ⟨22, a, b, c', k⟩ = _
          unfold kindsS
          rw [if_neg (show ¬ _ from by simp), if_neg (show ¬ _ from by simp), if_neg (show ¬ _ from by simp), if_pos rfl]
          dsimp only
          rw [hkn, Int.toNat_natCast, hg]) (rk_22_no S ns cs F nf cf N nn cn p A n c r B m d a b c' k w hnn (by omega))
    · exact kinds_via _ _ _ _ _ _ _ _ _ _ _ _ [a] [1] _ _ true _ (by rfl) (rk_23 S ns cs F nf cf N nn cn p A n c r B m d a b c' k w)
    · exact kinds_via _ _ _ _ _ _ _ _ _ _ _ _ [a] [1] _ _ true _ (by rfl) (rk_24 S ns cs F nf cf N nn cn p A n c r B m d a b c' k w)
    · exact kinds_via _ _ _ _ _ _ _ _ _ _ _ _ [a] [r] _ _ true _ (by rfl) (rk_25 S ns cs F nf cf N nn cn p A n c r B m d a b c' k w)
  · have hl : plainL op = none := by unfold plainL; repeat (rw [if_neg (by omega)])
    refine kinds_via _ _ _ _ _ _ _ _ _ _ _ _ [] [] _ _ false _ (by
      show kindsS ns m P.fns P.nats locs r ⟨op, a, b, c', k⟩ = _
      unfold kindsS
      dsimp only
      rw [if_neg (by omega), if_neg (by omega), if_neg (by omega), if_neg (by omega), if_neg (by omega), hl]) (rk_no S ns cs F nf cf N nn cn p A n c r B m d op a b c' k w (by omega))
end Go.Proofs.YtnnchinpmnpfiaaDoor
/- The reference's instruction. PRINTED BY A PROGRAM (mk_m33.py). -/
namespace Go.Proofs.YtnnchinpmnpfiaaDoor
open Go.ChangeShapes Go.WideShapes Go.RowKit Words

/-- the locals have these kinds, and no kind is 0 -/
def pairF (locs : List Int) : List Int → List Int → Bool
  | n :: r, k :: s => (decide (k ≠ 0) && decide (kindL locs n = k)) && pairF locs r s
  | _, _ => true
theorem pairF_no {locs : List Int} : ∀ {ls ks : List Int} {i : Nat} {n k : Int}, ls[i]? = some n → ks[i]? = some k → (decide (k ≠ 0) && decide (kindL locs n = k)) = false → pairF locs ls ks = false
  | x :: r, y :: s, 0, n, k, h1, h2, h => by
    cases h1; cases h2
    unfold pairF
    rw [h]; rfl
  | x :: r, y :: s, i + 1, n, k, h1, h2, h => by
    unfold pairF
    rw [pairF_no (ls := r) (ks := s) (i := i) (by simpa using h1) (by simpa using h2) h, Bool.and_false]
theorem pairF_yes {locs : List Int} : ∀ {ls ks : List Int}, (∀ (i : Nat) (n k : Int), ls[i]? = some n → ks[i]? = some k → (decide (k ≠ 0) && decide (kindL locs n = k)) = true) → pairF locs ls ks = true
  | [], _, _ => by unfold pairF; rfl
  | _ :: _, [], _ => by unfold pairF; rfl
  | x :: r, y :: s, h => by
    unfold pairF
    rw [h 0 x y rfl rfl, pairF_yes (ls := r) (ks := s) (fun i n k h1 h2 => h (i + 1) n k (by simpa using h1) (by simpa using h2))]; rfl
def instrB (locs ls ks : List Int) (ok : Bool) (x : NI) : Bool := numB x && (pairF locs ls ks && ok)
theorem instrB_num {locs ls ks : List Int} {ok : Bool} {x : NI} (h : numB x = false) : instrB locs ls ks ok x = false := by unfold instrB; rw [h]; rfl
theorem rkind_val (p : Int) (A : Option Addr) (n c : Nat) (r : Int) (B : Option Addr) (m d : Nat) (l : List Int) (i v : Int) (w : World) (h : Reads w w.heap.size 1 A n c (l.flatMap intCells)) (hv : kindL l i = v) :
    Calls Tryd.prog 68 #[fnV p A n c r B m d, .int .i64 i] w fun e w' => e = .returned (.int .i64 v) ∧ Below w.heap.size w w' := by
  subst hv
  exact rkind_any p A n c r B m d l i w h
set_option linter.unusedSimpArgs false in
set_option linter.unusedVariables false in
set_option maxRecDepth 100000 in
set_option maxHeartbeats 4000000 in
theorem instr_any (S : Option Addr) (ns cs : Nat) (F : Option Addr) (nf cf : Nat) (N : Option Addr) (nn cn : Nat) (p : Int) (A : Option Addr) (n c : Nat) (r : Int) (B : Option Addr) (m d : Nat) (x : NI) (locs ls ks : List Int) (ok : Bool) (w : World)
    (hA : Reads w w.heap.size 1 A n c (locs.flatMap intCells)) (hlk : ls.length = ks.length) (hll : ls.length ≤ 1000)
    (hK : ∀ wq, Below w.heap.size w wq → Calls Tryd.prog 67 #[prV S ns cs F nf cf N nn cn, fnV p A n c r B m d, insV x] wq (RetK wq ls ks ok)) :
    Calls Tryd.prog 53 #[prV S ns cs F nf cf N nn cn, fnV p A n c r B m d, insV x] w fun e w' => e = .returned (.bool (instrB locs ls ks ok x)) ∧ Below w.heap.size w w' := by
  obtain ⟨op, a, b, c', k⟩ := x
  have hB0 : Below w.heap.size w (((w.alloc (.cells #[.slice S ns cs, .slice F nf cf, .slice N nn cn] 26)).alloc (.cells #[.int .i64 p, .slice A n c, .int .i64 r, .slice B m d] 44)).alloc (.cells #[.int .i64 op, .int .i64 a, .int .i64 b, .int .i64 c', .int .u64 (U k)] 55)) := keep_alloc (keep_alloc (keep_alloc (Below.refl _ _) _) _) _
  by_cases h0 : a < 0
  · have d0 : decide (a < 0) = true := decide_eq_true h0
    have HV := Lib.hid (instrB_num (locs := locs) (ls := ls) (ks := ks) (ok := ok) (show numB ⟨op, a, b, c', k⟩ = false from by
      unfold numB byteB
      rw [Bool.and_eq_false_iff, Bool.and_eq_false_iff]
      simp only [decide_eq_false_iff_not]
      omega))
    clear h0
    go_enter Tryd.func53, Tryd.ntmps53
    go_wp2_with fail
    go_ret
    exact ⟨by rw [HV.out]; rfl, hB0⟩
  have d0 : decide (a < 0) = false := decide_eq_false h0
  by_cases h1 : 255 < a
  · have d1 : decide (255 < a) = true := decide_eq_true h1
    have HV := Lib.hid (instrB_num (locs := locs) (ls := ls) (ks := ks) (ok := ok) (show numB ⟨op, a, b, c', k⟩ = false from by
      unfold numB byteB
      rw [Bool.and_eq_false_iff, Bool.and_eq_false_iff]
      simp only [decide_eq_false_iff_not]
      omega))
    clear h0 h1
    go_enter Tryd.func53, Tryd.ntmps53
    go_wp2_with fail
    go_ret
    exact ⟨by rw [HV.out]; rfl, hB0⟩
  have d1 : decide (255 < a) = false := decide_eq_false h1
  by_cases h2 : b < 0
  · have d2 : decide (b < 0) = true := decide_eq_true h2
    have HV := Lib.hid (instrB_num (locs := locs) (ls := ls) (ks := ks) (ok := ok) (show numB ⟨op, a, b, c', k⟩ = false from by
      unfold numB byteB
      rw [Bool.and_eq_false_iff, Bool.and_eq_false_iff]
      simp only [decide_eq_false_iff_not]
      omega))
    clear h0 h1 h2
    go_enter Tryd.func53, Tryd.ntmps53
    go_wp2_with fail
    go_ret
    exact ⟨by rw [HV.out]; rfl, hB0⟩
  have d2 : decide (b < 0) = false := decide_eq_false h2
  by_cases h3 : 255 < b
  · have d3 : decide (255 < b) = true := decide_eq_true h3
    have HV := Lib.hid (instrB_num (locs := locs) (ls := ls) (ks := ks) (ok := ok) (show numB ⟨op, a, b, c', k⟩ = false from by
      unfold numB byteB
      rw [Bool.and_eq_false_iff, Bool.and_eq_false_iff]
      simp only [decide_eq_false_iff_not]
      omega))
    clear h0 h1 h2 h3
    go_enter Tryd.func53, Tryd.ntmps53
    go_wp2_with fail
    go_ret
    exact ⟨by rw [HV.out]; rfl, hB0⟩
  have d3 : decide (255 < b) = false := decide_eq_false h3
  by_cases h4 : c' < 0
  · have d4 : decide (c' < 0) = true := decide_eq_true h4
    have HV := Lib.hid (instrB_num (locs := locs) (ls := ls) (ks := ks) (ok := ok) (show numB ⟨op, a, b, c', k⟩ = false from by
      unfold numB byteB
      rw [Bool.and_eq_false_iff, Bool.and_eq_false_iff]
      simp only [decide_eq_false_iff_not]
      omega))
    clear h0 h1 h2 h3 h4
    go_enter Tryd.func53, Tryd.ntmps53
    go_wp2_with fail
    go_ret
    exact ⟨by rw [HV.out]; rfl, hB0⟩
  have d4 : decide (c' < 0) = false := decide_eq_false h4
  by_cases h5 : 255 < c'
  · have d5 : decide (255 < c') = true := decide_eq_true h5
    have HV := Lib.hid (instrB_num (locs := locs) (ls := ls) (ks := ks) (ok := ok) (show numB ⟨op, a, b, c', k⟩ = false from by
      unfold numB byteB
      rw [Bool.and_eq_false_iff, Bool.and_eq_false_iff]
      simp only [decide_eq_false_iff_not]
      omega))
    clear h0 h1 h2 h3 h4 h5
    go_enter Tryd.func53, Tryd.ntmps53
    go_wp2_with fail
    go_ret
    exact ⟨by rw [HV.out]; rfl, hB0⟩
  have d5 : decide (255 < c') = false := decide_eq_false h5
  have HN := Lib.hid (show numB ⟨op, a, b, c', k⟩ = true from by
    unfold numB byteB
    rw [decide_eq_true (by dsimp only; omega), decide_eq_true (by dsimp only; omega), decide_eq_true (by dsimp only; omega)]; rfl)
  clear h0 h1 h2 h3 h4 h5
  have X1 := (Blk.newAt (w.alloc (.cells #[.slice S ns cs, .slice F nf cf, .slice N nn cn] 26)) #[.int .i64 p, .slice A n c, .int .i64 r, .slice B m d] 44 (w.heap.size + 1) (by simp)).alloc (.cells #[.int .i64 op, .int .i64 a, .int .i64 b, .int .i64 c', .int .u64 (U k)] 55)
  have H := Lib.hid (hK _ hB0)
  obtain ⟨q, hq⟩ : ∃ q, ls.length = q := ⟨_, rfl⟩
  have hq2 : ks.length = q := by omega
  rw [hq] at hll
  have HQ := Lib.hid hq
  have HQ2 := Lib.hid hq2
  clear hK hlk hq hq2
  go_enter Tryd.func53, Tryd.ntmps53
  go_wp2_with fail
  refine H.out.mono ?_
  clear H
  rintro e w2 ⟨A2, c2, B2, d2', rfl, hr1, hr2, hb2⟩
  have hB2 := keep_below hb2 hB0
  have Y1 := X1.below hb2
  have t1 := HQ.out
  have t2 := HQ2.out
  rw [t1] at hr1 ⊢
  rw [t2] at hr2 ⊢
  obtain ⟨g, hg⟩ : ∃ g, w.heap.size + 1 = g := ⟨_, rfl⟩
  have HG := Lib.hid hg
  rw [hg] at Y1 ⊢
  have hAA := hA.belowU hB2
  clear t1 t2 hg hb2 X1 hA
  go_wp2_with fail
  go_loopw [10] (fun x wq => ∃ i : Nat, i ≤ q ∧ x = .int .i64 i ∧ (∀ j : Nat, j < i → ∀ (z y : Int), ls[j]? = some z → ks[j]? = some y → (decide (y ≠ 0) && decide (kindL locs z = y)) = true) ∧ Below w2.heap.size w2 wq) (fun x _ => q - (intOf x).toNat)
  case atStart => exact ⟨0, Nat.zero_le _, rfl, (fun j hj => by omega), Below.refl _ _⟩
  case round =>
    obtain ⟨i, hi, rfl, hst, hb⟩ := hrel
    have HST := Lib.hid hst
    clear hst
    by_cases hlt : i < q
    · obtain ⟨b1, o1, z, rfl, hbb1, hz, hc1⟩ := (hr1.belowU hb).elem (f := intCells) (fun _ => rfl) (by omega) hlt
      obtain ⟨b2, o2, y, rfl, hbb2, hy, hc2⟩ := (hr2.belowU hb).elem (f := intCells) (fun _ => rfl) (by omega) hlt
      have e1 := hc1 0 _ rfl
      have e2 := hc2 0 _ rfl
      rw [Nat.mul_one, Nat.add_zero] at e1 e2
      have HZ := Lib.hid hz
      have HY := Lib.hid hy
      have hk0 : (0 : Int) ≤ (i : Int) := by omega
      have hk1 : (i : Int) < (q : Int) := by omega
      have hd : decide ((i : Int) < (q : Int)) = true := decide_eq_true hk1
      have hd2 : decide (i < q) = true := decide_eq_true hlt
      have hw : IntKind.i64.wrap ((i : Int) + 1) = (i : Int) + 1 := IntWalk.i64_in _ (by omega)
      have Yr := Y1.below hb
      have E1 := Lag.cell e1
      have E2 := Lag.cell e2
      have F0 := Lag.cell (Yr.cell 0 _ rfl)
      have F1 := Lag.cell (Yr.cell 1 _ rfl)
      have F2 := Lag.cell (Yr.cell 2 _ rfl)
      have F3 := Lag.cell (Yr.cell 3 _ rfl)
      obtain ⟨kv, hkv⟩ : ∃ kv, kindL locs z = kv := ⟨_, rfl⟩
      have HKV := Lib.hid hkv
      have HAR := Lib.hid (hAA.belowU hb)
      have HLT := Lib.hid hlt
      clear hz hy hc1 hc2 e1 e2 hkv hlt
      go_upto_region 7 with fail
      by_cases hy0 : y = 0
      · have s0 : (y == 0) = true := by simp [hy0]
        have HV := Lib.hid (show instrB locs ls ks ok ⟨op, a, b, c', k⟩ = false from by unfold instrB; rw [pairF_no HZ.out HY.out (by rw [decide_eq_false (by simp [hy0])]; rfl), Bool.false_and, Bool.and_false])
        clear hy0
        refine wp_region_lag (by kernel_rfl) (by kernel_rfl) ?_
        repeat (go_big_quiet_step (fail))
        refine wpQuiet_nil ?_
        rintro _ ⟨⟨w3, hb3⟩, rfl⟩
        clear E1 E2 F0 F1 F2 F3
        go_wp2_with fail
        go_ret
        exact ⟨by rw [HV.out]; rfl, keep_below hb3 (keep_below hb hB2)⟩
      · have s0 : (y == 0) = false := by simp [hy0]
        by_cases hky : kv = y
        · have s1 : (kv != y) = false := by simp [hky]
          have HP := Lib.hid (show (decide (y ≠ 0) && decide (kindL locs z = y)) = true from by rw [HKV.out, decide_eq_true hy0, decide_eq_true hky]; rfl)
          clear hy0 hky
          refine wp_region_lag (by kernel_rfl) (by kernel_rfl) ?_
          repeat (go_big_quiet_step ((go_at_call 68; exact Calls.lag (rkind_val p A n c r B m d locs z kv _ (HAR.out.belowU (Lag.h _)) HKV.out))))
          refine wpQuiet_nil ?_
          rintro _ ⟨⟨w3, hb3⟩, rfl⟩
          clear E1 E2 F0 F1 F2 F3
          go_wp2_with fail
          go_roundw
          case rel =>
            refine ⟨i + 1, by have := HLT.out; omega, by go_num, fun j hj z' y' hz' hy' => ?_, keep_below hb3 hb⟩
            by_cases hji : j < i
            · exact HST.out j hji z' y' hz' hy'
            · obtain rfl : j = i := by omega
              have e1 := HZ.out.symm.trans hz'
              have e2 := HY.out.symm.trans hy'
              cases e1
              cases e2
              exact HP.out
          case measure => have := HLT.out; simp [intOf]; omega
        · have s1 : (kv != y) = true := by simp [hky]
          have HV := Lib.hid (show instrB locs ls ks ok ⟨op, a, b, c', k⟩ = false from by unfold instrB; rw [pairF_no HZ.out HY.out (by rw [HKV.out, decide_eq_false hky, Bool.and_false]), Bool.false_and, Bool.and_false])
          clear hy0 hky
          refine wp_region_lag (by kernel_rfl) (by kernel_rfl) ?_
          repeat (go_big_quiet_step ((go_at_call 68; exact Calls.lag (rkind_val p A n c r B m d locs z kv _ (HAR.out.belowU (Lag.h _)) HKV.out))))
          refine wpQuiet_nil ?_
          rintro _ ⟨⟨w3, hb3⟩, rfl⟩
          clear E1 E2 F0 F1 F2 F3
          go_wp2_with fail
          go_ret
          exact ⟨by rw [HV.out]; rfl, keep_below hb3 (keep_below hb hB2)⟩
    · have hin : i = q := by omega
      subst hin
      have hd : decide ((i : Int) < (i : Int)) = false := by simp
      have hd2 : decide (i < i) = false := by simp
      have HV := Lib.hid (show instrB locs ls ks ok ⟨op, a, b, c', k⟩ = ok from by
        unfold instrB
        rw [HN.out, pairF_yes (fun j z y h1 h2 => HST.out j (by have := (List.getElem?_eq_some_iff.1 h1).1; have := HQ.out; omega) z y h1 h2)]; rfl)
      clear hlt
      go_wp2_with fail
      go_ret
      exact ⟨by rw [HV.out]; rfl, keep_below hb hB2⟩
end Go.Proofs.YtnnchinpmnpfiaaDoor
/- The reference's function. PRINTED BY A PROGRAM (mk_m34.py). -/
namespace Go.Proofs.YtnnchinpmnpfiaaDoor
open Go.ChangeShapes Go.WideShapes Go.RowKit Words

/-- is a function right? in the reference's order -/
def fnR (locs : List Int) (p r : Int) (ins : List NI) (ib : NI → Bool) : Bool :=
  decide (locs.length ≤ 16) && (decide (0 ≤ p) && (decide (p ≤ 3) && (decide (p ≤ (locs.length : Int)) && (typedB r && (decide (1 ≤ ins.length) && (decide (ins.length ≤ 256) && (locs.all typedB && (ins.all ib && lastB ins))))))))
theorem all_no' {α : Type} {p : α → Bool} {l : List α} {i : Nat} {a : α} (h : l[i]? = some a) (hp : p a = false) : l.all p = false := by
  rw [Bool.eq_false_iff]
  intro h2
  rw [List.all_eq_true.1 h2 a (List.mem_of_getElem? h)] at hp
  cases hp
theorem all_yes' {α : Type} {p : α → Bool} {l : List α} (h : ∀ (i : Nat) a, l[i]? = some a → p a = true) : l.all p = true :=
  List.all_eq_true.2 fun a ha => by obtain ⟨i, hi⟩ := List.mem_iff_getElem?.1 ha; exact h i a hi
set_option linter.unusedSimpArgs false in
set_option linter.unusedVariables false in
set_option maxRecDepth 100000 in
set_option maxHeartbeats 4000000 in
theorem rfn_any (S : Option Addr) (ns cs : Nat) (F : Option Addr) (nf cf : Nat) (N : Option Addr) (nn cn : Nat) (p : Int) (A : Option Addr) (n c : Nat) (r : Int) (B : Option Addr) (m d : Nat) (locs : List Int) (ins : List NI) (ib : NI → Bool) (w : World)
    (hA : Reads w w.heap.size 1 A n c (locs.flatMap intCells)) (hI : Reads w w.heap.size 5 B m d (ins.flatMap insCells)) (hn : n ≤ 1000000) (hm : m ≤ 1000000)
    (hS : ∀ x ∈ ins, ∀ wq, Below w.heap.size w wq → Calls Tryd.prog 53 #[prV S ns cs F nf cf N nn cn, fnV p A n c r B m d, insV x] wq fun e w' => e = .returned (.bool (ib x)) ∧ Below wq.heap.size wq w') :
    Calls Tryd.prog 33 #[prV S ns cs F nf cf N nn cn, fnV p A n c r B m d] w fun e w' => e = .returned (.bool (fnR locs p r ins ib)) ∧ Below w.heap.size w w' := by
  have hlen := hA.length (f := intCells) (fun _ => rfl) (by omega)
  have hlen2 := hI.length insCells_len (by omega)
  have hB0 : Below w.heap.size w ((w.alloc (.cells #[.slice S ns cs, .slice F nf cf, .slice N nn cn] 26)).alloc (.cells #[.int .i64 p, .slice A n c, .int .i64 r, .slice B m d] 44)) := keep_alloc (keep_alloc (Below.refl _ _) _) _
  by_cases h0 : 16 < n
  · have d00 : decide ((16 : Int) < (n : Int)) = true := decide_eq_true (by omega)
    have d01 : decide (16 < n) = true := decide_eq_true (by omega)
    have HV := Lib.hid (show fnR locs p r ins ib = false from by unfold fnR; rw [decide_eq_false (show ¬ locs.length ≤ 16 by omega), Bool.false_and])
    clear hlen hlen2 hA hI hS h0
    go_enter Tryd.func33, Tryd.ntmps33
    go_wp2_with fail
    go_ret
    exact ⟨by rw [HV.out]; rfl, hB0⟩
  have d00 : decide ((16 : Int) < (n : Int)) = false := decide_eq_false (by omega)
  have d01 : decide (16 < n) = false := decide_eq_false (by omega)
  by_cases h1 : p < 0
  · have d10 : decide (p < 0) = true := decide_eq_true (by omega)
    have HV := Lib.hid (show fnR locs p r ins ib = false from by unfold fnR; rw [decide_eq_false (show ¬ 0 ≤ p by omega), Bool.false_and, Bool.and_false])
    clear hlen hlen2 hA hI hS h0 h1
    go_enter Tryd.func33, Tryd.ntmps33
    go_wp2_with fail
    go_ret
    exact ⟨by rw [HV.out]; rfl, hB0⟩
  have d10 : decide (p < 0) = false := decide_eq_false (by omega)
  by_cases h2 : 3 < p
  · have d20 : decide (3 < p) = true := decide_eq_true (by omega)
    have HV := Lib.hid (show fnR locs p r ins ib = false from by unfold fnR; rw [decide_eq_false (show ¬ p ≤ 3 by omega), Bool.false_and, Bool.and_false, Bool.and_false])
    clear hlen hlen2 hA hI hS h0 h1 h2
    go_enter Tryd.func33, Tryd.ntmps33
    go_wp2_with fail
    go_ret
    exact ⟨by rw [HV.out]; rfl, hB0⟩
  have d20 : decide (3 < p) = false := decide_eq_false (by omega)
  by_cases h3 : (n : Int) < p
  · have d30 : decide ((n : Int) < p) = true := decide_eq_true (by omega)
    have HV := Lib.hid (show fnR locs p r ins ib = false from by unfold fnR; rw [decide_eq_false (show ¬ p ≤ (locs.length : Int) by omega), Bool.false_and, Bool.and_false, Bool.and_false, Bool.and_false])
    clear hlen hlen2 hA hI hS h0 h1 h2 h3
    go_enter Tryd.func33, Tryd.ntmps33
    go_wp2_with fail
    go_ret
    exact ⟨by rw [HV.out]; rfl, hB0⟩
  have d30 : decide ((n : Int) < p) = false := decide_eq_false (by omega)
  have HT := Lib.hid (show typedB r = decide (r = 1 ∨ r = 2) from rfl)
  by_cases h4 : r = 1 ∨ r = 2
  case neg =>
    have d40 : (r != 1) = true := by simp; omega
    have d41 : (r != 2) = true := by simp; omega
    have HV := Lib.hid (show fnR locs p r ins ib = false from by unfold fnR; rw [HT.out, decide_eq_false h4, Bool.false_and, Bool.and_false, Bool.and_false, Bool.and_false, Bool.and_false])
    clear hlen hlen2 hA hI hS h0 h1 h2 h3 h4
    go_enter Tryd.func33, Tryd.ntmps33
    go_wp2_with fail
    go_ret
    exact ⟨by rw [HV.out]; rfl, hB0⟩
  have hr : (r != 1) = false ∨ ((r != 1) = true ∧ (r != 2) = false) := by
    rcases h4 with rfl | rfl
    · exact Or.inl rfl
    · exact Or.inr ⟨rfl, rfl⟩
  by_cases h5 : m < 1
  · have d50 : decide ((m : Int) < 1) = true := decide_eq_true (by omega)
    have d51 : decide (m < 1) = true := decide_eq_true h5
    have HV := Lib.hid (show fnR locs p r ins ib = false from by unfold fnR; rw [decide_eq_false (show ¬ 1 ≤ ins.length by omega), Bool.false_and, Bool.and_false, Bool.and_false, Bool.and_false, Bool.and_false, Bool.and_false])
    clear hlen hlen2 hA hI hS h0 h1 h2 h3 h4 h5
    rcases hr with e1 | ⟨e1, e2⟩
    all_goals
      go_enter Tryd.func33, Tryd.ntmps33
      go_wp2_with fail
      go_ret
      exact ⟨by rw [HV.out]; rfl, hB0⟩
  have d50 : decide ((m : Int) < 1) = false := decide_eq_false (by omega)
  have d51 : decide (m < 1) = false := decide_eq_false h5
  by_cases h6 : 256 < m
  · have d60 : decide ((256 : Int) < (m : Int)) = true := decide_eq_true (by omega)
    have d61 : decide (256 < m) = true := decide_eq_true h6
    have HV := Lib.hid (show fnR locs p r ins ib = false from by unfold fnR; rw [decide_eq_false (show ¬ ins.length ≤ 256 by omega), Bool.false_and, Bool.and_false, Bool.and_false, Bool.and_false, Bool.and_false, Bool.and_false, Bool.and_false])
    clear hlen hlen2 hA hI hS h0 h1 h2 h3 h4 h5 h6
    rcases hr with e1 | ⟨e1, e2⟩
    all_goals
      go_enter Tryd.func33, Tryd.ntmps33
      go_wp2_with fail
      go_ret
      exact ⟨by rw [HV.out]; rfl, hB0⟩
  have d60 : decide ((256 : Int) < (m : Int)) = false := decide_eq_false (by omega)
  have d61 : decide (256 < m) = false := decide_eq_false h6
  have HE := Lib.hid (show fnR locs p r ins ib = (locs.all typedB && (ins.all ib && lastB ins)) from by
    unfold fnR
    rw [decide_eq_true (show locs.length ≤ 16 by omega), decide_eq_true (show 0 ≤ p by omega), decide_eq_true (show p ≤ 3 by omega), decide_eq_true (show p ≤ (locs.length : Int) by omega), HT.out, decide_eq_true h4, decide_eq_true (show 1 ≤ ins.length by omega), decide_eq_true (show ins.length ≤ 256 by omega)]
    rfl)
  have HM := Lib.hid (show 1 ≤ m by omega)
  have X0 := (Blk.new w #[.slice S ns cs, .slice F nf cf, .slice N nn cn] 26).alloc (.cells #[.int .i64 p, .slice A n c, .int .i64 r, .slice B m d] 44)
  have X1 := Blk.newAt (w.alloc (.cells #[.slice S ns cs, .slice F nf cf, .slice N nn cn] 26)) #[.int .i64 p, .slice A n c, .int .i64 r, .slice B m d] 44 (w.heap.size + 1) (by simp)
  have hA1 := hA.belowU hB0
  have hI1 := hI.belowU hB0
  have HL := Lib.hid hlen
  have HL2 := Lib.hid hlen2
  clear hlen hlen2 hA hI h0 h1 h2 h3 h4 h5 h6
  have main : (Calls Tryd.prog 33 #[prV S ns cs F nf cf N nn cn, fnV p A n c r B m d] w fun e w' => e = .returned (.bool (fnR locs p r ins ib)) ∧ Below w.heap.size w w') := by
    rcases hr with e1 | ⟨e1, e2⟩
    all_goals
      go_enter Tryd.func33, Tryd.ntmps33
      go_upto_region 3 with fail
      obtain ⟨w1, hw1⟩ : ∃ w1, (w.alloc (.cells #[.slice S ns cs, .slice F nf cf, .slice N nn cn] 26)).alloc (.cells #[.int .i64 p, .slice A n c, .int .i64 r, .slice B m d] 44) = w1 := ⟨_, rfl⟩
      rw [hw1] at hB0 X0 X1 hA1 hI1 ⊢
      clear hw1
      obtain ⟨g, hg⟩ : ∃ g, w.heap.size = g := ⟨_, rfl⟩
      have HG := Lib.hid hg
      rw [hg] at X0 X1 ⊢
      clear hg
      go_wp2_with fail
      go_loop [5] (fun x => ∃ i : Nat, i ≤ n ∧ x = .int .i64 i ∧ (∀ j : Nat, j < i → ∀ z, locs[j]? = some z → typedB z = true)) (fun x => n - (intOf x).toNat)
      case atStart => exact ⟨0, Nat.zero_le _, rfl, fun j hj => by omega⟩
      case round =>
        obtain ⟨i, hi, rfl, hst⟩ := hrel
        have HST := Lib.hid hst
        clear hst
        have x0 := X1.cell 1 _ rfl
        by_cases hlt : i < n
        · obtain ⟨b1, o1, z, rfl, hbb1, hz, hc1⟩ := hA1.elem (f := intCells) (fun _ => rfl) (by omega) hlt
          have z0 := hc1 0 _ rfl
          rw [Nat.mul_one, Nat.add_zero] at z0
          have HZ := Lib.hid hz
          have hk0 : (0 : Int) ≤ (i : Int) := by omega
          have hk1 : (i : Int) < (n : Int) := by omega
          have hd : decide ((i : Int) < (n : Int)) = true := decide_eq_true hk1
          have hd2 : decide (i < n) = true := decide_eq_true hlt
          have hw : IntKind.i64.wrap ((i : Int) + 1) = (i : Int) + 1 := IntWalk.i64_in _ (by omega)
          have HLT := Lib.hid hlt
          clear hz hc1 hlt
          by_cases hz1 : z = 1
          · have s1 : (z != 1) = false := by simp [hz1]
            have HP := Lib.hid (show typedB z = true from decide_eq_true (Or.inl hz1))
            clear hz1
            go_wp2_with fail
            go_round
            case rel =>
              refine ⟨i + 1, by have := HLT.out; omega, by go_num, fun j hj z' hz' => ?_⟩
              by_cases hji : j < i
              · exact HST.out j hji z' hz'
              · obtain rfl : j = i := by omega
                have e1 := HZ.out.symm.trans hz'
                cases e1
                exact HP.out
            case measure => have := HLT.out; simp [intOf]; omega
          · have s1 : (z != 1) = true := by simp [hz1]
            by_cases hz2 : z = 2
            · have s2 : (z != 2) = false := by simp [hz2]
              have HP := Lib.hid (show typedB z = true from decide_eq_true (Or.inr hz2))
              clear hz1 hz2
              go_wp2_with fail
              go_round
              case rel =>
                refine ⟨i + 1, by have := HLT.out; omega, by go_num, fun j hj z' hz' => ?_⟩
                by_cases hji : j < i
                · exact HST.out j hji z' hz'
                · obtain rfl : j = i := by omega
                  have e1 := HZ.out.symm.trans hz'
                  cases e1
                  exact HP.out
              case measure => have := HLT.out; simp [intOf]; omega
            · have s2 : (z != 2) = true := by simp [hz2]
              have HV := Lib.hid (show fnR locs p r ins ib = false from by rw [HE.out, all_no' HZ.out (show typedB z = false from decide_eq_false (fun h => h.elim hz1 hz2)), Bool.false_and])
              clear hz1 hz2
              go_wp2_with fail
              go_ret
              exact ⟨by rw [HV.out]; rfl, by assumption⟩
        · have hin : i = n := by omega
          subst hin
          have hd : decide ((i : Int) < (i : Int)) = false := by simp
          have hd2 : decide (i < i) = false := by simp
          have HE2 := Lib.hid (show fnR locs p r ins ib = (ins.all ib && lastB ins) from by
            rw [HE.out, all_yes' (fun j z h1 => HST.out j (by have := (List.getElem?_eq_some_iff.1 h1).1; have := HL.out; omega) z h1)]; rfl)
          clear hlt HE HST
          go_wp2_with fail
          clear x0
          go_loopw [6] (fun x wq => ∃ i : Nat, i ≤ m ∧ x = .int .i64 i ∧ (∀ j : Nat, j < i → ∀ z, ins[j]? = some z → ib z = true) ∧ Below w1.heap.size w1 wq) (fun x _ => m - (intOf x).toNat)
          case atStart => exact ⟨0, Nat.zero_le _, rfl, (fun j hj => by omega), Below.refl _ _⟩
          case round =>
            obtain ⟨j, hj, rfl, hst, hb⟩ := hrel
            have HST := Lib.hid hst
            clear hst
            have Z1 := X1.below hb
            have Z0 := X0.below hb
            have x3 := Z1.cell 3 _ rfl
            by_cases hlt : j < m
            · obtain ⟨b1, o1, x, rfl, hbb1, hx, hc1⟩ := (hI1.belowU hb).elem insCells_len (by omega) hlt
              have HX := Lib.hid hx
              have HS := Lib.hid (hS x (List.mem_of_getElem? hx))
              obtain ⟨op, a, b, c', k⟩ := x
              have y0 := hc1 0 _ rfl
              have y1 := hc1 1 _ rfl
              have y2 := hc1 2 _ rfl
              have y3 := hc1 3 _ rfl
              have y4 := hc1 4 _ rfl
              rw [Nat.add_zero] at y0
              dsimp only at y0 y1 y2 y3 y4
              have hk0 : (0 : Int) ≤ (j : Int) := by omega
              have hk1 : (j : Int) < (m : Int) := by omega
              have hd : decide ((j : Int) < (m : Int)) = true := decide_eq_true hk1
              have hd2 : decide (j < m) = true := decide_eq_true hlt
              have hw : IntKind.i64.wrap ((j : Int) + 1) = (j : Int) + 1 := IntWalk.i64_in _ (by omega)
              have HLT := Lib.hid hlt
              clear hx hc1 hlt
              go_upto_region 11 with fail
              have Y0 := Lag.cell y0
              have Y1 := Lag.cell y1
              have Y2 := Lag.cell y2
              have Y3 := Lag.cell y3
              have Y4 := Lag.cell y4
              have P0 := Lag.cell (Z0.cell 0 _ rfl)
              have P1 := Lag.cell (Z0.cell 1 _ rfl)
              have P2 := Lag.cell (Z0.cell 2 _ rfl)
              have Q0 := Lag.cell (Z1.cell 0 _ rfl)
              have Q1 := Lag.cell (Z1.cell 1 _ rfl)
              have Q2 := Lag.cell (Z1.cell 2 _ rfl)
              have Q3 := Lag.cell (Z1.cell 3 _ rfl)
              obtain ⟨v, hv⟩ : ∃ v, ib ⟨op, a, b, c', k⟩ = v := ⟨_, rfl⟩
              have HV := Lib.hid hv
              rw [hv] at HS
              have HBW := Lib.hid (keep_below hb hB0)
              clear y0 y1 y2 y3 y4 x3 Z0 Z1 hv
              cases v with
              | false =>
                have HR := Lib.hid (show fnR locs p r ins ib = false from by rw [HE2.out, all_no' HX.out HV.out, Bool.false_and])
                refine wp_region_lag (by kernel_rfl) (by kernel_rfl) ?_
                repeat (go_big_quiet_step ((go_at_call 53; exact Calls.lag (HS.out _ (keep_below (Lag.h _) HBW.out)))))
                refine wpQuiet_nil ?_
                rintro _ ⟨⟨w3, hb3⟩, rfl⟩
                clear Y0 Y1 Y2 Y3 Y4 P0 P1 P2 Q0 Q1 Q2 Q3
                go_wp2_with fail
                go_ret
                exact ⟨by rw [HR.out]; rfl, keep_below hb3 HBW.out⟩
              | true =>
                refine wp_region_lag (by kernel_rfl) (by kernel_rfl) ?_
                repeat (go_big_quiet_step ((go_at_call 53; exact Calls.lag (HS.out _ (keep_below (Lag.h _) HBW.out)))))
                refine wpQuiet_nil ?_
                rintro _ ⟨⟨w3, hb3⟩, rfl⟩
                clear Y0 Y1 Y2 Y3 Y4 P0 P1 P2 Q0 Q1 Q2 Q3
                go_wp2_with fail
                go_roundw
                case rel =>
                  refine ⟨j + 1, by have := HLT.out; omega, by go_num, fun j' hj' z' hz' => ?_, keep_below hb3 hb⟩
                  by_cases hji : j' < j
                  · exact HST.out j' hji z' hz'
                  · obtain rfl : j' = j := by omega
                    have e1 := HX.out.symm.trans hz'
                    cases e1
                    exact HV.out
                case measure => have := HLT.out; simp [intOf]; omega
            · have hin : j = m := by omega
              subst hin
              have hd : decide ((j : Int) < (j : Int)) = false := by simp
              have hd2 : decide (j < j) = false := by simp
              have HE3 := Lib.hid (show fnR locs p r ins ib = lastB ins from by
                rw [HE2.out, all_yes' (fun i z h1 => HST.out i (by have := (List.getElem?_eq_some_iff.1 h1).1; have := HL2.out; omega) z h1)]; rfl)
              obtain ⟨jl, hjl⟩ : ∃ jl, j = jl + 1 := ⟨j - 1, by have := HM.out; omega⟩
              obtain ⟨b1, o1, x, rfl, hbb1, hx, hc1⟩ := (hI1.belowU hb).elem insCells_len (by omega) (show jl < j by omega)
              have y0 := hc1 0 _ rfl
              rw [Nat.add_zero] at y0
              have HLA := Lib.hid (show lastB ins = decide (x.op = 11 ∨ x.op = 25) from by
                unfold lastB
                rw [show ins.length - 1 = jl by have := HL2.out; omega, hx])
              obtain ⟨xo, hxo⟩ : ∃ xo, x.op = xo := ⟨_, rfl⟩
              rw [hxo] at y0 HLA
              subst hjl
              have hw : IntKind.i64.wrap ((jl : Int) + 1 - 1) = (jl : Int) := by rw [show (jl : Int) + 1 - 1 = (jl : Int) by omega]; exact IntWalk.i64_in _ (by omega)
              have hw2 : IntKind.i64.wrap (jl : Int) = (jl : Int) := IntWalk.i64_in _ (by omega)
              have hj0 : (0 : Int) ≤ (jl : Int) := by omega
              have hj1 : (jl : Int) < (jl : Int) + 1 := by omega
              have HBW := Lib.hid (keep_below hb hB0)
              clear hlt hc1 hx hxo HST
              by_cases h11 : xo = 11
              · have s1 : (xo == 11) = true := by simp [h11]
                have HV := Lib.hid (show fnR locs p r ins ib = true from by rw [HE3.out, HLA.out, decide_eq_true (Or.inl h11)])
                clear h11
                go_wp2_with fail
                go_ret
                exact ⟨by rw [HV.out]; rfl, HBW.out⟩
              · have s1 : (xo == 11) = false := by simp [h11]
                by_cases h25 : xo = 25
                · have s2 : (xo == 25) = true := by simp [h25]
                  have HV := Lib.hid (show fnR locs p r ins ib = true from by rw [HE3.out, HLA.out, decide_eq_true (Or.inr h25)])
                  clear h11 h25
                  go_wp2_with fail
                  go_ret
                  exact ⟨by rw [HV.out]; rfl, HBW.out⟩
                · have s2 : (xo == 25) = false := by simp [h25]
                  have HV := Lib.hid (show fnR locs p r ins ib = false from by rw [HE3.out, HLA.out, decide_eq_false (fun h => h.elim h11 h25)])
                  clear h11 h25
                  go_wp2_with fail
                  go_ret
                  exact ⟨by rw [HV.out]; rfl, HBW.out⟩
  exact main
end Go.Proofs.YtnnchinpmnpfiaaDoor
/- The reference's function says what the program's valid says. -/
namespace Go.Proofs.YtnnchinpmnpfiaaDoor
open Go.ChangeShapes Go.WideShapes Go.RowKit Words

def instrBP (P : Prg) (f : Fn) (x : NI) : Bool := instrB f.locs (kindsS P.shs.length f.ins.length P.fns P.nats f.locs f.r x).1 (kindsS P.shs.length f.ins.length P.fns P.nats f.locs f.r x).2.1 (kindsS P.shs.length f.ins.length P.fns P.nats f.locs f.r x).2.2 x
theorem pair_one {locs : List Int} (ht : locs.all typedB = true) {n k : Int} (hn : 0 ≤ n) : decide (locs[n.toNat]? = some k) = (decide (k ≠ 0) && decide (kindL locs n = k)) := by
  unfold kindL
  rw [if_pos hn]
  cases h : locs[n.toNat]? with
  | none =>
    rw [Option.getD_none]
    by_cases hk : k = 0
    · subst hk; rfl
    · rw [decide_eq_false (show ¬ (0 : Int) = k from fun e => hk e.symm), Bool.and_false]
      rfl
  | some v =>
    rw [Option.getD_some]
    have hv := List.all_eq_true.1 ht v (List.mem_of_getElem? h)
    have hv2 := of_decide_eq_true hv
    by_cases hk : v = k
    · subst hk
      rw [decide_eq_true (show v ≠ 0 by omega)]
      simp
    · rw [decide_eq_false hk, Bool.and_false]
      exact decide_eq_false fun e => hk (Option.some.inj e)
theorem suit_pair {locs : List Int} (ht : locs.all typedB = true) : ∀ {ls ks : List Int}, (∀ z ∈ ls, 0 ≤ z) → suitF locs ls ks = pairF locs ls ks
  | [], _, _ => by unfold suitF pairF; rfl
  | _ :: _, [], _ => by unfold suitF pairF; rfl
  | n :: r, k :: s, h => by
    unfold suitF pairF
    rw [pair_one ht (h n (List.mem_cons_self ..)), suit_pair ht fun z hz => h z (List.mem_cons_of_mem _ hz)]
theorem suit_instr (P : Prg) (f : Fn) (ht : f.locs.all typedB = true) (x : NI) : suitB P f x = instrBP P f x := by
  unfold suitB instrBP instrB
  cases hn : numB x with
  | false => rw [Bool.false_and, Bool.false_and, Bool.and_false]
  | true =>
    rw [Bool.true_and, Bool.true_and, suit_pair ht (kindsS_neg hn), Bool.and_comm]
theorem all_congr {α : Type} {p q : α → Bool} : ∀ {l : List α}, (∀ x ∈ l, p x = q x) → l.all p = l.all q
  | [], _ => rfl
  | a :: r, h => by rw [List.all_cons, List.all_cons, h a (List.mem_cons_self ..), all_congr fun x hx => h x (List.mem_cons_of_mem _ hx)]
theorem fn_fnR (P : Prg) (f : Fn) : fnB P f = fnR f.locs f.p f.r f.ins (instrBP P f) := by
  unfold fnB validF fnR
  cases ht : f.locs.all typedB with
  | false => simp only [Bool.false_and, Bool.and_false]
  | true =>
    rw [all_congr fun x _ => suit_instr P f ht x]
    rw [show decide (f.p ≤ 3 ∧ f.p ≤ (f.locs.length : Int)) = (decide (f.p ≤ 3) && decide (f.p ≤ (f.locs.length : Int))) from Bool.decide_and _ _]
    cases decide (f.locs.length ≤ 16) <;> cases typedB f.r <;> cases decide (0 ≤ f.p) <;> cases decide (f.p ≤ 3) <;> cases decide (f.p ≤ (f.locs.length : Int)) <;> cases decide (1 ≤ f.ins.length) <;> cases decide (f.ins.length ≤ 256) <;> cases lastB f.ins <;> cases f.ins.all (instrBP P f) <;> rfl
/-- the reference's function, of the program -/
theorem rf_any (S : Option Addr) (ns cs : Nat) (F : Option Addr) (nf cf : Nat) (N : Option Addr) (nn cn : Nat) (P : Prg) (fcs : List FC) (x : FC) (f : Fn) (w : World)
    (hR : PrAt w S ns cs F nf cf N nn cn P fcs) (hk : P.ok) (hx : FnAt w x f) (hf : f.ok) :
    Calls Tryd.prog 33 #[prV S ns cs F nf cf N nn cn, fcV x] w fun e w' => e = .returned (.bool (fnB P f)) ∧ Below w.heap.size w w' := by
  have l1 := hx.locs.length (f := intCells) (fun _ => rfl) (by omega)
  have l2 := hx.ins.length insCells_len (by omega)
  have l3 := hR.shs.length hdCells_len (by omega)
  have l4 := hR.fns.length fcCells_len (by omega)
  have l5 := hR.nats.length (f := intCells) (fun _ => rfl) (by omega)
  have l6 := hR.each.1
  have h1 := hf.nl
  have h2 := hf.ni
  have h3 := hk.ns
  have h4 := hk.nf
  have h5 := hk.nn
  have key : ∀ y ∈ f.ins, ∀ wq, Below w.heap.size w wq → Calls Tryd.prog 53 #[prV S ns cs F nf cf N nn cn, fnV x.p x.A x.n x.c x.r x.B x.m x.e, insV y] wq fun e w' => e = .returned (.bool (instrBP P f y)) ∧ Below wq.heap.size wq w' := by
    intro y hy wq hq
    have hl := kindsS_len P.shs.length f.ins.length P.fns P.nats f.locs f.r y
    have hkk : ∀ wz, Below wq.heap.size wq wz → _ := fun wz hz => rkinds_any S ns cs F nf cf N nn cn P fcs x.p x.A x.n x.c x.r x.B x.m x.e f.locs y wz (hR.below (keep_below hz hq)) (hx.locs.belowU (keep_below hz hq)) (by omega) (by omega) (by omega) (by omega)
    have hsu : instrBP P f y = instrB f.locs (kindsS P.shs.length f.ins.length P.fns P.nats f.locs f.r y).1 (kindsS P.shs.length f.ins.length P.fns P.nats f.locs f.r y).2.1 (kindsS P.shs.length f.ins.length P.fns P.nats f.locs f.r y).2.2 y := rfl
    rw [hsu]
    rw [← l3, ← l2, hx.r] at hkk
    generalize kindsS P.shs.length f.ins.length P.fns P.nats f.locs f.r y = K at hkk hl
    obtain ⟨ls, ks, ok⟩ := K
    rw [← l3, ← l2, hx.r]
    exact instr_any S _ cs F nf cf N nn cn x.p x.A x.n x.c f.r x.B _ x.e y f.locs ls ks ok wq (hx.locs.belowU hq) hl.1 hl.2 hkk
  have h := rfn_any S ns cs F nf cf N nn cn x.p x.A x.n x.c x.r x.B x.m x.e f.locs f.ins (instrBP P f) w hx.locs hx.ins (by omega) (by omega) key
  rw [hx.p, hx.r] at h
  rw [fn_fnR]
  unfold fcV
  rw [hx.p, hx.r]
  exact h
end Go.Proofs.YtnnchinpmnpfiaaDoor
/- The reference's Check. -/
namespace Go.Proofs.YtnnchinpmnpfiaaDoor
open Go.ChangeShapes Go.WideShapes Go.RowKit Words

theorem rasks_val (pw pg k len m : Int) (v : Bool) (w : World) (hm0 : 0 ≤ m) (hm1 : m ≤ 4294967295) (h : asksH pw pg k len m = v) : Calls Tryd.prog 32 #[confV pw pg, headV k len m] w fun e w' => e = .returned (.bool v) ∧ Below w.heap.size w w' := by
  subst h
  exact rasks_any pw pg k len m w hm0 hm1
set_option linter.unusedSimpArgs false in
set_option linter.unusedVariables false in
set_option maxRecDepth 100000 in
set_option maxHeartbeats 10000000 in
/-- the reference's Check -/
theorem rcheck_any (pw pg : Int) (S : Option Addr) (ns cs : Nat) (F : Option Addr) (nf cf : Nat) (N : Option Addr) (nn cn : Nat) (P : Prg) (fcs : List FC) (w : World) (hR : PrAt w S ns cs F nf cf N nn cn P fcs) (hk : P.ok) :
    Calls Tryd.prog 10 #[prV S ns cs F nf cf N nn cn, confV pw pg] w fun e w' => e = .returned (.int .i64 (checkE P pw pg)) ∧ Below w.heap.size w w' := by
  have hB0 : Below w.heap.size w ((w.alloc (.cells #[.slice S ns cs, .slice F nf cf, .slice N nn cn] 26)).alloc (.cells #[.int .i64 pw, .int .i64 pg] 28)) := keep_alloc (keep_alloc (Below.refl _ _) _) _
  have X0 := (Blk.new w #[.slice S ns cs, .slice F nf cf, .slice N nn cn] 26).alloc (.cells #[.int .i64 pw, .int .i64 pg] 28)
  have C0 := Blk.newAt (w.alloc (.cells #[.slice S ns cs, .slice F nf cf, .slice N nn cn] 26)) #[.int .i64 pw, .int .i64 pg] 28 (w.heap.size + 1) (by simp)
  have l3 := hR.shs.length hdCells_len (by omega)
  have l4 := hR.fns.length fcCells_len (by omega)
  have l5 := hR.nats.length (f := intCells) (fun _ => rfl) (by omega)
  have l6 := hR.each.1
  have k3 := hk.ns
  have k4 := hk.nf
  have k5 := hk.nn
  by_cases h1 : nf < 1
  · have d1 : decide ((nf : Int) < 1) = true := decide_eq_true (by omega)
    have d1' : decide (nf < 1) = true := decide_eq_true h1
    have HV := Lib.hid (checkE_no (pw := pw) (pg := pg) (show checkB P pw pg = false from by unfold checkB; rw [decide_eq_false (show ¬ 1 ≤ P.fns.length by omega)]; rfl))
    clear l3 l4 l5 l6 k3 k4 k5 h1 C0
    go_enter Tryd.func10, Tryd.ntmps10
    go_wp2_with fail
    go_ret
    exact ⟨by rw [HV.out]; rfl, hB0⟩
  have d1 : decide ((nf : Int) < 1) = false := decide_eq_false (by omega)
  have d1' : decide (nf < 1) = false := decide_eq_false h1
  by_cases h2 : 16 < nf
  · have d2 : decide ((16 : Int) < (nf : Int)) = true := decide_eq_true (by omega)
    have d2' : decide (16 < nf) = true := decide_eq_true h2
    have HV := Lib.hid (checkE_no (pw := pw) (pg := pg) (show checkB P pw pg = false from by unfold checkB; rw [decide_eq_false (show ¬ P.fns.length ≤ 16 by omega), Bool.false_and, Bool.and_false]))
    clear l3 l4 l5 l6 k3 k4 k5 h1 h2 C0
    go_enter Tryd.func10, Tryd.ntmps10
    go_wp2_with fail
    go_ret
    exact ⟨by rw [HV.out]; rfl, hB0⟩
  have d2 : decide ((16 : Int) < (nf : Int)) = false := decide_eq_false (by omega)
  have d2' : decide (16 < nf) = false := decide_eq_false h2
  by_cases h3 : 16 < ns
  · have d3 : decide ((16 : Int) < (ns : Int)) = true := decide_eq_true (by omega)
    have d3' : decide (16 < ns) = true := decide_eq_true h3
    have HV := Lib.hid (checkE_no (pw := pw) (pg := pg) (show checkB P pw pg = false from by unfold checkB; rw [decide_eq_false (show ¬ P.shs.length ≤ 16 by omega), Bool.false_and, Bool.and_false, Bool.and_false]))
    clear l3 l4 l5 l6 k3 k4 k5 h1 h2 h3 C0
    go_enter Tryd.func10, Tryd.ntmps10
    go_wp2_with fail
    go_ret
    exact ⟨by rw [HV.out]; rfl, hB0⟩
  have d3 : decide ((16 : Int) < (ns : Int)) = false := decide_eq_false (by omega)
  have d3' : decide (16 < ns) = false := decide_eq_false h3
  by_cases h4 : 16 < nn
  · have d4 : decide ((16 : Int) < (nn : Int)) = true := decide_eq_true (by omega)
    have d4' : decide (16 < nn) = true := decide_eq_true h4
    have HV := Lib.hid (checkE_no (pw := pw) (pg := pg) (show checkB P pw pg = false from by unfold checkB; rw [decide_eq_false (show ¬ P.nats.length ≤ 16 by omega), Bool.false_and, Bool.and_false, Bool.and_false, Bool.and_false]))
    clear l3 l4 l5 l6 k3 k4 k5 h1 h2 h3 h4 C0
    go_enter Tryd.func10, Tryd.ntmps10
    go_wp2_with fail
    go_ret
    exact ⟨by rw [HV.out]; rfl, hB0⟩
  have d4 : decide ((16 : Int) < (nn : Int)) = false := decide_eq_false (by omega)
  have d4' : decide (16 < nn) = false := decide_eq_false h4
  have HE := Lib.hid (show checkB P pw pg = (P.shs.all (shB pw pg) && (P.nats.all fewB && (headB P && P.fns.all (fnB P)))) from by
    unfold checkB
    rw [decide_eq_true (show 1 ≤ P.fns.length by omega), decide_eq_true (show P.fns.length ≤ 16 by omega), decide_eq_true (show P.shs.length ≤ 16 by omega), decide_eq_true (show P.nats.length ≤ 16 by omega)]
    rfl)
  have HNF := Lib.hid (show 0 < nf from by omega)
  have hnb : ns ≤ 16 ∧ nf ≤ 16 ∧ nn ≤ 16 := by omega
  have L3 := Lib.hid l3
  have L4 := Lib.hid l4
  have L5 := Lib.hid l5
  have L6 := Lib.hid l6
  have hR1 := hR.below hB0
  clear l3 l4 l5 l6 k3 k4 k5 h1 h2 h3 h4 hR
  go_enter Tryd.func10, Tryd.ntmps10
  go_upto_region 3 with fail
  obtain ⟨w1, hw1⟩ : ∃ w1, (w.alloc (.cells #[.slice S ns cs, .slice F nf cf, .slice N nn cn] 26)).alloc (.cells #[.int .i64 pw, .int .i64 pg] 28) = w1 := ⟨_, rfl⟩
  rw [hw1] at hB0 X0 C0 hR1 ⊢
  clear hw1
  obtain ⟨g, hg⟩ : ∃ g, w.heap.size = g := ⟨_, rfl⟩
  rw [hg] at X0 C0 ⊢
  clear hg
  go_wp2_with fail
  go_loopw [5] (fun x wq => ∃ i : Nat, i ≤ ns ∧ x = .int .i64 i ∧ (∀ j : Nat, j < i → ∀ z, P.shs[j]? = some z → shB pw pg z = true) ∧ Below w1.heap.size w1 wq) (fun x _ => ns - (intOf x).toNat)
  case atStart => exact ⟨0, Nat.zero_le _, rfl, (fun j hj => by omega), Below.refl _ _⟩
  case round =>
    obtain ⟨i, hi, rfl, hst, hb⟩ := hrel
    have HST := Lib.hid hst
    clear hst
    have Z0 := X0.below hb
    have ZC := C0.below hb
    have x0 := Z0.cell 0 _ rfl
    have HBW := Lib.hid (keep_below hb hB0)
    by_cases hlt : i < ns
    · obtain ⟨b1, o1, h, hSA, hbb1, hz, hc1⟩ := (hR1.below hb).shs.elem hdCells_len (by omega) hlt
      have HZ := Lib.hid hz
      have hxo := hk.shs h (List.mem_of_getElem? hz)
      obtain ⟨hk_, hl_, hm_⟩ := h
      have y0 := hc1 0 _ rfl
      have y1 := hc1 1 _ rfl
      have y2 := hc1 2 _ rfl
      rw [Nat.add_zero] at y0
      dsimp only at y0 y1 y2
      have hm0 : 0 ≤ hm_ := hxo.2.2.1
      have hm1 : hm_ ≤ 4294967295 := hxo.2.2.2
      have hk0 : (0 : Int) ≤ (i : Int) := by omega
      have hk1 : (i : Int) < (ns : Int) := by omega
      have hd : decide ((i : Int) < (ns : Int)) = true := decide_eq_true hk1
      have hd2 : decide (i < ns) = true := decide_eq_true hlt
      have hw : IntKind.i64.wrap ((i : Int) + 1) = (i : Int) + 1 := IntWalk.i64_in _ (by omega)
      have HLT := Lib.hid hlt
      clear hz hc1 hlt hxo hR1
      subst hSA
      go_upto_region 6 with fail
      have Y0 := Lag.cell y0
      have Y1 := Lag.cell y1
      have Y2 := Lag.cell y2
      have P0 := Lag.cell (Z0.cell 0 _ rfl)
      have Q0 := Lag.cell (ZC.cell 0 _ rfl)
      have Q1 := Lag.cell (ZC.cell 1 _ rfl)
      clear y0 y1 y2 x0 Z0 ZC
      by_cases hkk : hk_ = 1
      · have s0 : (hk_ != 1) = false := by simp [hkk]
        cases hv : validH hk_ hl_ hm_ with
        | false =>
          have HVH := Lib.hid hv
          have HR := Lib.hid (checkE_no (show checkB P pw pg = false from by rw [HE.out, all_no' HZ.out (show shB pw pg ⟨hk_, hl_, hm_⟩ = false from by unfold shB; dsimp only; rw [hv, Bool.false_and, Bool.and_false]), Bool.false_and]))
          clear hv hkk
          refine wp_region_lag (by kernel_rfl) (by kernel_rfl) ?_
          repeat (go_big_quiet_step ((go_at_call 31; exact Calls.lag (rhv_val hk_ hl_ hm_ false _ hm0 hm1 HVH.out))))
          refine wpQuiet_nil ?_
          rintro _ ⟨⟨w3, hb3⟩, rfl⟩
          clear Y0 Y1 Y2 P0 Q0 Q1
          go_wp2_with fail
          go_ret
          exact ⟨by rw [HR.out]; rfl, keep_below hb3 HBW.out⟩
        | true =>
          have HVH := Lib.hid hv
          cases hq : asksH pw pg hk_ hl_ hm_ with
          | false =>
            have HQ := Lib.hid hq
            have HR := Lib.hid (checkE_no (show checkB P pw pg = false from by rw [HE.out, all_no' HZ.out (show shB pw pg ⟨hk_, hl_, hm_⟩ = false from by unfold shB; dsimp only; rw [hq, Bool.and_false, Bool.and_false]), Bool.false_and]))
            clear hv hkk hq
            refine wp_region_lag (by kernel_rfl) (by kernel_rfl) ?_
            repeat (go_big_quiet_step (first
              | (go_at_call 31; exact Calls.lag (rhv_val hk_ hl_ hm_ true _ hm0 hm1 HVH.out))
              | (go_at_call 32; exact Calls.lag (rasks_val pw pg hk_ hl_ hm_ false _ hm0 hm1 HQ.out))))
            refine wpQuiet_nil ?_
            rintro _ ⟨⟨w3, hb3⟩, rfl⟩
            clear Y0 Y1 Y2 P0 Q0 Q1
            go_wp2_with fail
            go_ret
            exact ⟨by rw [HR.out]; rfl, keep_below hb3 HBW.out⟩
          | true =>
            have HQ := Lib.hid hq
            have HP := Lib.hid (show shB pw pg ⟨hk_, hl_, hm_⟩ = true from by unfold shB; dsimp only; rw [hq, hv, decide_eq_true hkk]; rfl)
            clear hv hkk hq
            refine wp_region_lag (by kernel_rfl) (by kernel_rfl) ?_
            repeat (go_big_quiet_step (first
              | (go_at_call 31; exact Calls.lag (rhv_val hk_ hl_ hm_ true _ hm0 hm1 HVH.out))
              | (go_at_call 32; exact Calls.lag (rasks_val pw pg hk_ hl_ hm_ true _ hm0 hm1 HQ.out))))
            refine wpQuiet_nil ?_
            rintro _ ⟨⟨w3, hb3⟩, rfl⟩
            clear Y0 Y1 Y2 P0 Q0 Q1
            go_wp2_with fail
            go_roundw
            case rel =>
              refine ⟨i + 1, by have := HLT.out; omega, by go_num, fun j' hj' z' hz' => ?_, keep_below hb3 hb⟩
              by_cases hji : j' < i
              · exact HST.out j' hji z' hz'
              · obtain rfl : j' = i := by omega
                have e1 := HZ.out.symm.trans hz'
                cases e1
                exact HP.out
            case measure => have := HLT.out; simp [intOf]; omega
      · have s0 : (hk_ != 1) = true := by simp [hkk]
        have HR := Lib.hid (checkE_no (show checkB P pw pg = false from by rw [HE.out, all_no' HZ.out (show shB pw pg ⟨hk_, hl_, hm_⟩ = false from by unfold shB; dsimp only; rw [decide_eq_false hkk, Bool.false_and]), Bool.false_and]))
        clear hkk
        refine wp_region_lag (by kernel_rfl) (by kernel_rfl) ?_
        repeat (go_big_quiet_step (fail))
        refine wpQuiet_nil ?_
        rintro _ ⟨⟨w3, hb3⟩, rfl⟩
        clear Y0 Y1 Y2 P0 Q0 Q1
        go_wp2_with fail
        go_ret
        exact ⟨by rw [HR.out]; rfl, keep_below hb3 HBW.out⟩
    · have hin : i = ns := by omega
      subst hin
      have hd : decide ((i : Int) < (i : Int)) = false := by simp
      have hd2 : decide (i < i) = false := by simp
      have HE2 := Lib.hid (show checkB P pw pg = (P.nats.all fewB && (headB P && P.fns.all (fnB P))) from by
        rw [HE.out, all_yes' (fun j z h1 => HST.out j (by have := (List.getElem?_eq_some_iff.1 h1).1; have := L3.out; omega) z h1)]; rfl)
      have hRr := hR1.below hb
      clear hlt HE HST
      have x1 := Z0.cell 1 _ rfl
      have x2 := Z0.cell 2 _ rfl
      go_wp2_with fail
      go_loop [6] (fun x => ∃ i : Nat, i ≤ nn ∧ x = .int .i64 i ∧ (∀ j : Nat, j < i → ∀ z, P.nats[j]? = some z → fewB z = true)) (fun x => nn - (intOf x).toNat)
      case atStart => exact ⟨0, Nat.zero_le _, rfl, fun j hj => by omega⟩
      case round =>
        obtain ⟨k, hi, rfl, hst⟩ := hrel
        have HST := Lib.hid hst
        clear hst
        by_cases hlt : k < nn
        · obtain ⟨b1, o1, z, hNA, hbb1, hz, hc1⟩ := hRr.nats.elem (f := intCells) (fun _ => rfl) (by omega) hlt
          subst hNA
          have z0 := hc1 0 _ rfl
          rw [Nat.mul_one, Nat.add_zero] at z0
          have HZ := Lib.hid hz
          have hk0 : (0 : Int) ≤ (k : Int) := by omega
          have hk1 : (k : Int) < (nn : Int) := by omega
          have hd : decide ((k : Int) < (nn : Int)) = true := decide_eq_true hk1
          have hd2 : decide (k < nn) = true := decide_eq_true hlt
          have hw : IntKind.i64.wrap ((k : Int) + 1) = (k : Int) + 1 := IntWalk.i64_in _ (by omega)
          have HLT := Lib.hid hlt
          clear hz hc1 hlt
          by_cases hz1 : z < 0
          · have s1 : decide (z < 0) = true := decide_eq_true hz1
            have HV := Lib.hid (checkE_no (show checkB P pw pg = false from by rw [HE2.out, all_no' HZ.out (show fewB z = false from decide_eq_false (by omega)), Bool.false_and]))
            clear hz1
            go_wp2_with fail
            go_ret
            exact ⟨by rw [HV.out]; rfl, HBW.out⟩
          · have s1 : decide (z < 0) = false := decide_eq_false hz1
            by_cases hz2 : 3 < z
            · have s2 : decide (3 < z) = true := decide_eq_true hz2
              have HV := Lib.hid (checkE_no (show checkB P pw pg = false from by rw [HE2.out, all_no' HZ.out (show fewB z = false from decide_eq_false (by omega)), Bool.false_and]))
              clear hz1 hz2
              go_wp2_with fail
              go_ret
              exact ⟨by rw [HV.out]; rfl, HBW.out⟩
            · have s2 : decide (3 < z) = false := decide_eq_false hz2
              have HP := Lib.hid (show fewB z = true from decide_eq_true (by omega))
              clear hz1 hz2
              go_wp2_with fail
              go_round
              case rel =>
                refine ⟨k + 1, by have := HLT.out; omega, by go_num, fun j hj z' hz' => ?_⟩
                by_cases hji : j < k
                · exact HST.out j hji z' hz'
                · obtain rfl : j = k := by omega
                  have e1 := HZ.out.symm.trans hz'
                  cases e1
                  exact HP.out
              case measure => have := HLT.out; simp [intOf]; omega
        · have hin : k = nn := by omega
          subst hin
          have hd : decide ((k : Int) < (k : Int)) = false := by simp
          have hd2 : decide (k < k) = false := by simp
          have HE3 := Lib.hid (show checkB P pw pg = (headB P && P.fns.all (fnB P)) from by
            rw [HE2.out, all_yes' (fun j z h1 => HST.out j (by have := (List.getElem?_eq_some_iff.1 h1).1; have := L5.out; omega) z h1)]; rfl)
          have hnf1 := HNF.out
          obtain ⟨bf, off, fc, hFA, hbb, hfc, hcl⟩ := hRr.fns.elem fcCells_len (by omega) hnf1
          subst hFA
          obtain ⟨f0, hf0⟩ : ∃ f, P.fns[0]? = some f := ⟨_, List.getElem?_eq_getElem (by have := L4.out; have := L6.out; omega)⟩
          have hat := hRr.each.2 0 fc f0 hfc hf0
          have g0 := hcl 0 _ rfl
          have g2 := hcl 2 _ rfl
          rw [Nat.zero_mul, Nat.add_zero] at g0 g2
          rw [hat.p] at g0
          rw [hat.r] at g2
          obtain ⟨fp, hfp⟩ : ∃ fp, f0.p = fp := ⟨_, rfl⟩
          obtain ⟨fr, hfr⟩ : ∃ fr, f0.r = fr := ⟨_, rfl⟩
          rw [hfp] at g0
          rw [hfr] at g2
          have HHD := Lib.hid (show headB P = (decide (fp = 0) && decide (fr = 1)) from by unfold headB; rw [hf0, ← hfp, ← hfr])
          have hk0 : (0 : Int) < (nf : Int) := by omega
          have hkk : decide ((0 : Int) < (nf : Int)) = true := decide_eq_true hk0
          clear hlt HE2 HST hfc hcl hat hf0 hfp hfr
          by_cases e0 : fp = 0
          · have t0 : (fp != 0) = false := by simp [e0]
            by_cases e1 : fr = 1
            · have t1 : (fr != 1) = false := by simp [e1]
              have HE4 := Lib.hid (show checkB P pw pg = P.fns.all (fnB P) from by rw [HE3.out, HHD.out, decide_eq_true e0, decide_eq_true e1]; rfl)
              clear e0 e1
              go_wp2_with fail
              clear g0 g2 x0 x1 x2
              go_loopw [7] (fun x wq => ∃ i : Nat, i ≤ nf ∧ x = .int .i64 i ∧ (∀ j : Nat, j < i → ∀ z, P.fns[j]? = some z → fnB P z = true) ∧ Below w1.heap.size w1 wq) (fun x _ => nf - (intOf x).toNat)
              case atStart => exact ⟨0, Nat.zero_le _, rfl, (fun j hj => by omega), hb⟩
              case round =>
                obtain ⟨j, hj, rfl, hst, hb4⟩ := hrel
                have HST := Lib.hid hst
                clear hst
                have Z4 := X0.below hb4
                have x4 := Z4.cell 1 _ rfl
                have HBW4 := Lib.hid (keep_below hb4 hB0)
                by_cases hlt : j < nf
                · obtain ⟨b1, o1, fx, hFA, hbb1, hz, hc1⟩ := (hR1.below hb4).fns.elem fcCells_len (by omega) hlt
                  have hjl : j < P.fns.length := by have := L4.out; have := L6.out; omega
                  obtain ⟨fj, hfj⟩ : ∃ f, P.fns[j]? = some f := ⟨_, List.getElem?_eq_getElem hjl⟩
                  have HFJ := Lib.hid hfj
                  have HAT := Lib.hid (hR1.each.2 j fx fj hz hfj)
                  have HOK := Lib.hid (hk.fns fj (List.mem_of_getElem? hfj))
                  obtain ⟨v, hv⟩ : ∃ v, fnB P fj = v := ⟨_, rfl⟩
                  have HC := Lib.hid (show ∀ u, Below w1.heap.size w1 u → Calls Tryd.prog 33 #[prV S i cs (some ⟨bf, off, none⟩) nf cf N k cn, fcV fx] u fun e w' => e = .returned (.bool v) ∧ Below u.heap.size u w' from fun u hu => by
                    rw [← hv]
                    exact rf_any S _ cs _ nf cf N _ cn P fcs fx fj u (hR1.below hu) hk (HAT.out.below hu) HOK.out)
                  have HV := Lib.hid hv
                  obtain ⟨p_, A_, n_, c_, r_, B_, m_, e_⟩ := fx
                  cases hFA
                  have y0 := hc1 0 _ rfl
                  have y1 := hc1 1 _ rfl
                  have y2 := hc1 2 _ rfl
                  have y3 := hc1 3 _ rfl
                  rw [Nat.add_zero] at y0
                  dsimp only at y0 y1 y2 y3
                  have hk0' : (0 : Int) ≤ (j : Int) := by omega
                  have hk1 : (j : Int) < (nf : Int) := by omega
                  have hd : decide ((j : Int) < (nf : Int)) = true := decide_eq_true hk1
                  have hd2 : decide (j < nf) = true := decide_eq_true hlt
                  have hw : IntKind.i64.wrap ((j : Int) + 1) = (j : Int) + 1 := IntWalk.i64_in _ (by omega)
                  have HLT := Lib.hid hlt
                  have HB4 := Lib.hid hb4
                  clear hz hc1 hlt hfj hv
                  go_upto_region 18 with fail
                  have Y0 := Lag.cell y0
                  have Y1 := Lag.cell y1
                  have Y2 := Lag.cell y2
                  have Y3 := Lag.cell y3
                  have P0 := Lag.cell (Z4.cell 0 _ rfl)
                  have P1 := Lag.cell (Z4.cell 1 _ rfl)
                  have P2 := Lag.cell (Z4.cell 2 _ rfl)
                  clear y0 y1 y2 y3 x4 Z4 hb4
                  cases v with
                  | false =>
                    have HRR := Lib.hid (checkE_no (show checkB P pw pg = false from by rw [HE4.out, all_no' HFJ.out HV.out]))
                    refine wp_region_lag (by kernel_rfl) (by kernel_rfl) ?_
                    repeat (go_big_quiet_step ((go_at_call 33; exact Calls.lag (HC.out _ (keep_below (Lag.h _) HB4.out)))))
                    refine wpQuiet_nil ?_
                    rintro _ ⟨⟨w3, hb3⟩, rfl⟩
                    clear Y0 Y1 Y2 Y3 P0 P1 P2
                    go_wp2_with fail
                    go_ret
                    exact ⟨by rw [HRR.out]; rfl, keep_below hb3 HBW4.out⟩
                  | true =>
                    refine wp_region_lag (by kernel_rfl) (by kernel_rfl) ?_
                    repeat (go_big_quiet_step ((go_at_call 33; exact Calls.lag (HC.out _ (keep_below (Lag.h _) HB4.out)))))
                    refine wpQuiet_nil ?_
                    rintro _ ⟨⟨w3, hb3⟩, rfl⟩
                    clear Y0 Y1 Y2 Y3 P0 P1 P2
                    go_wp2_with fail
                    go_roundw
                    case rel =>
                      refine ⟨j + 1, by have := HLT.out; omega, by go_num, fun j' hj' z' hz' => ?_, keep_below hb3 HB4.out⟩
                      by_cases hji : j' < j
                      · exact HST.out j' hji z' hz'
                      · obtain rfl : j' = j := by omega
                        have e1 := HFJ.out.symm.trans hz'
                        cases e1
                        exact HV.out
                    case measure => have := HLT.out; simp [intOf]; omega
                · have hin : j = nf := by omega
                  subst hin
                  have hd : decide ((j : Int) < (j : Int)) = false := by simp
                  have hd2 : decide (j < j) = false := by simp
                  have HV := Lib.hid (checkE_yes (show checkB P pw pg = true from by
                    rw [HE4.out, all_yes' (fun i z h1 => HST.out i (by have := (List.getElem?_eq_some_iff.1 h1).1; have := L4.out; have := L6.out; omega) z h1)]))
                  clear hlt HST
                  go_wp2_with fail
                  go_ret
                  exact ⟨by rw [HV.out]; rfl, HBW4.out⟩
            · have t1 : (fr != 1) = true := by simp [e1]
              have HV := Lib.hid (checkE_no (show checkB P pw pg = false from by rw [HE3.out, HHD.out, decide_eq_false e1, Bool.and_false, Bool.false_and]))
              clear e0 e1
              go_wp2_with fail
              go_ret
              exact ⟨by rw [HV.out]; rfl, HBW.out⟩
          · have t0 : (fp != 0) = true := by simp [e0]
            have HV := Lib.hid (checkE_no (show checkB P pw pg = false from by rw [HE3.out, HHD.out, decide_eq_false e0, Bool.false_and, Bool.false_and]))
            clear e0
            go_wp2_with fail
            go_ret
            exact ⟨by rw [HV.out]; rfl, HBW.out⟩
end Go.Proofs.YtnnchinpmnpfiaaDoor

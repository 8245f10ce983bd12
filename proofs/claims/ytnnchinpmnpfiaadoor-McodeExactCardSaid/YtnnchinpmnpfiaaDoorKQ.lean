/- made: a right program and one with one thing changed; a made program is right. -/
import Derived.Test.YtnnchinpmnpfiaaDoorKK
import Derived.Test.YtnnchinpmnpfiaaDoorKM
import Derived.Test.YtnnchinpmnpfiaaDoorKI
import Derived.Test.YtnnchinpmnpfiaaDoorKO
import Derived.Test.YtnnchinpmnpfiaaDoorKP
namespace Go.Proofs.YtnnchinpmnpfiaaDoor
open Go.ChangeShapes Go.WideShapes Go.RowKit Words

theorem instrC : InstrC := fun g t S ns cs F nf cf N nn cn fcs fns nats p A n c r B m d gl pc cnt w h1 h2 h3 h4 h5 h6 h7 h8 h9 h10 => instruction_any g t S ns cs F nf cf N nn cn fcs fns nats p A n c r B m d gl pc cnt w h1 h2 h3 h4 h5 h6 h7 h8 h9 h10
theorem managedC : ManagedC := fun g t N nn cn nats w h1 h2 h3 h4 h5 h6 => managed_any instrC g t N nn cn nats w h1 h2 h3 h4 h5 h6
theorem nativeC : NativeC := fun g t nf args F cf fl w h1 h2 h3 h4 h5 h6 h7 => (native_any g t nf args F cf fl w h1 h2 h3 h4 h5 h6 h7).mono fun _ _ ⟨l, A, c, t', e1, e2, e3, e4, _, e6, e7, e8⟩ => ⟨l, A, c, t', e1, e2, e3, e4, e6, e7, e8⟩
/-- a slice of which the first cell is a number does not lie in a block without numbers -/
theorem Reads.farInt {w : World} {B s n c : Nat} {A : Option Addr} {xs : List Value} {X : Nat → Prop} (hr : Reads w B s A n c xs) (h0 : 0 < n → ∃ k z, xs[0]? = some (.int k z)) (hX : ∀ i, X i → ∃ t cs, Blk w i t cs ∧ ∀ k z, Value.int k z ∉ cs.toList) : FarX X n A := fun b off hn e hx => by
  obtain ⟨t, cs, hB, hno⟩ := hX b hx
  obtain ⟨k, z, hu⟩ := h0 hn
  obtain ⟨b', off', e', -, hc⟩ := hr.at_ hn
  rw [e] at e'
  cases e'
  have h1 := hc 0 _ hu
  rw [cell_of_row w b (off + 0) cs t (0, 0) hB] at h1
  exact hno k z (by have := Array.mem_of_getElem? h1; simpa using this)
theorem head_int {α : Type} {f : α → List Value} {l : List α} {n : Nat} (hl : l.length = n) (hf : ∀ a, ∃ k z r, f a = .int k z :: r) (hn : 0 < n) : ∃ k z, (l.flatMap f)[0]? = some (.int k z) := by
  cases l with
  | nil => simp at hl; omega
  | cons a l =>
    obtain ⟨k, z, r, e⟩ := hf a
    exact ⟨k, z, by rw [List.flatMap_cons, e]; rfl⟩
theorem PrAt.onlyX {w w2 : World} {X : Nat → Prop} {S : Option Addr} {ns cs : Nat} {F : Option Addr} {nf cf : Nat} {N : Option Addr} {nn cn : Nat} {P : Prg} {fcs : List FC} (h : PrAt w S ns cs F nf cf N nn cn P fcs) (hX : ∀ i, X i → ∃ t cs, Blk w i t cs ∧ ∀ k z, Value.int k z ∉ cs.toList) (ho : OnlyX X w w2) : PrAt w2 S ns cs F nf cf N nn cn P fcs := by
  refine ⟨h.shs.onlyX (h.shs.farInt (head_int (h.shs.length hdCells_len (by omega)) fun a => ⟨_, _, _, rfl⟩) hX) ho, h.fns.onlyX (h.fns.farInt (head_int (h.fns.length fcCells_len (by omega)) fun a => ⟨_, _, _, rfl⟩) hX) ho, ⟨h.each.1, fun i x f h1 h2 => ?_⟩, h.nats.onlyX (h.nats.farInt (head_int (h.nats.length (f := intCells) (fun _ => rfl) (by omega)) fun a => ⟨_, _, _, rfl⟩) hX) ho⟩
  have hx := h.each.2 i x f h1 h2
  exact ⟨hx.p, hx.r, hx.locs.onlyX (hx.locs.farInt (head_int (hx.locs.length (f := intCells) (fun _ => rfl) (by omega)) fun a => ⟨_, _, _, rfl⟩) hX) ho, hx.ins.onlyX (hx.ins.farInt (head_int (hx.ins.length insCells_len (by omega)) fun a => ⟨_, _, _, rfl⟩) hX) ho⟩
/-- a right program and another one come back -/
def RetMadePr (w : World) (e : Ending) (w' : World) : Prop :=
  ∃ (S : Option Addr) (ns cs : Nat) (F : Option Addr) (nf cf : Nat) (N : Option Addr) (nn cn : Nat) (fcs : List FC) (P : Prg) (S2 : Option Addr) (ns2 cs2 : Nat) (F2 : Option Addr) (nf2 cf2 : Nat) (N2 : Option Addr) (nn2 cn2 : Nat) (fcs2 : List FC) (P2 : Prg),
    e = .returned (.tuple #[prV S ns cs F nf cf N nn cn, prV S2 ns2 cs2 F2 nf2 cf2 N2 nn2 cn2]) ∧ PrAt w' S ns cs F nf cf N nn cn P fcs ∧ MadeOk P ∧ PrAt w' S2 ns2 cs2 F2 nf2 cf2 N2 nn2 cn2 P2 fcs2 ∧ P2.ok ∧ Below w.heap.size w w'
set_option linter.unusedSimpArgs false in
set_option linter.unusedVariables false in
set_option maxRecDepth 100000 in
set_option maxHeartbeats 8000000 in
theorem made_any (TA : Option Addr) (tn tc : Nat) (tl : List Int) (UA : Option Addr) (un uc : Nat) (ul : List Int) (w : World) (hA : Reads w w.heap.size 1 TA tn tc (tl.flatMap intCells)) (hU : Reads w w.heap.size 1 UA un uc (ul.flatMap intCells)) :
    Calls Tryd.prog 7 #[.slice TA tn tc, .slice UA un uc] w (RetMadePr w) := by
  have hB0 : Below w.heap.size w (((w.alloc (.cells #[.slice none 0 0, .slice none 0 0, .slice none 0 0] 26)).alloc (.cells #[.slice none 0 0, .slice none 0 0, .slice none 0 0] 26)).alloc (.cells #[.slice TA tn tc, .int .i64 0] 64)) := keep_alloc (keep_alloc (keep_alloc (Below.refl _ _) _) _) _
  have R0 := ((Blk.new w #[.slice none 0 0, .slice none 0 0, .slice none 0 0] 26).alloc (.cells #[.slice none 0 0, .slice none 0 0, .slice none 0 0] 26)).alloc (.cells #[.slice TA tn tc, .int .i64 0] 64)
  have Q0 := (Blk.newAt (w.alloc (.cells #[.slice none 0 0, .slice none 0 0, .slice none 0 0] 26)) #[.slice none 0 0, .slice none 0 0, .slice none 0 0] 26 (w.heap.size + 1) (by simp)).alloc (.cells #[.slice TA tn tc, .int .i64 0] 64)
  have T0 := Blk.newAt ((w.alloc (.cells #[.slice none 0 0, .slice none 0 0, .slice none 0 0] 26)).alloc (.cells #[.slice none 0 0, .slice none 0 0, .slice none 0 0] 26)) #[.slice TA tn tc, .int .i64 0] 64 (w.heap.size + 1 + 1) (by simp)
  have HA := Lib.hid hA
  have HU := Lib.hid hU
  clear hA hU
  go_enter Tryd.func7, Tryd.ntmps7
  go_wp2_with fail
  obtain ⟨w1, hw1⟩ : ∃ w1, ((w.alloc (.cells #[.slice none 0 0, .slice none 0 0, .slice none 0 0] 26)).alloc (.cells #[.slice none 0 0, .slice none 0 0, .slice none 0 0] 26)).alloc (.cells #[.slice TA tn tc, .int .i64 0] 64) = w1 := ⟨_, rfl⟩
  have hs1 : w1.heap.size = w.heap.size + 3 := by rw [← hw1]; simp
  rw [hw1] at hB0 R0 Q0 T0 ⊢
  have hT1 : TapeAt w1 (w.heap.size + 1 + 1) 0 := ⟨TA, tn, tc, tl, T0, (HA.out.below hB0).more (by omega)⟩
  obtain ⟨bb, hbb⟩ : ∃ bb, w.heap.size = bb := ⟨_, rfl⟩
  have HBB := Lib.hid hbb
  rw [hbb] at R0 Q0 hT1 hs1 ⊢
  obtain ⟨r1, hr1⟩ : ∃ r1, bb + 1 = r1 := ⟨_, rfl⟩
  rw [hr1] at Q0 hT1 ⊢
  obtain ⟨g, hg⟩ : ∃ g, r1 + 1 = g := ⟨_, rfl⟩
  rw [hg] at hT1 ⊢
  have hlt : bb < r1 ∧ r1 < g ∧ g < w1.heap.size := by omega
  have HB1 := Lib.hid hB0
  clear hw1 T0 hbb hr1 hg hB0
  refine (image_any managedC nativeC g 0 w1 hT1 (by omega)).mono ?_
  rintro e w2 ⟨S, ns, cs, F, nf, cf, N, nn, cn, M, m, cm, fcs, P, ccs, rfl, hP, hK, hMR, hC, hm, hX2⟩
  have R2 := R0.onlyX (X := fun i => i = g) (by omega) hX2
  have Q2 := Q0.onlyX (X := fun i => i = g) (by omega) hX2
  have hs2 : w1.heap.size ≤ w2.heap.size := hX2.size
  have HX2 := Lib.hid hX2
  clear R0 Q0 hT1 hX2
  go_wp2_with fail
  have hba : Below w2.heap.size w2 (w2.alloc (.cells #[.slice S ns cs, .slice F nf cf, .slice N nn cn, .slice M m cm] 67)) := keep_alloc (Below.refl _ _) _
  have I3 := Blk.new w2 #[.slice S ns cs, .slice F nf cf, .slice N nn cn, .slice M m cm] 67
  have R3 := R2.below hba
  have Q3 := Q2.below hba
  have hP3 := hP.below hba
  have hMR3 := hMR.belowU hba
  have hC3 := hC.below hba
  have HB23 := Lib.hid hba
  obtain ⟨w3, hw3⟩ : ∃ w3, w2.alloc (.cells #[.slice S ns cs, .slice F nf cf, .slice N nn cn, .slice M m cm] 67) = w3 := ⟨_, rfl⟩
  have hs3 : w3.heap.size = w2.heap.size + 1 := by rw [← hw3]; simp
  rw [hw3] at I3 R3 Q3 hP3 hMR3 hC3 HB23 ⊢
  obtain ⟨bm, hbm⟩ : ∃ bm, w2.heap.size = bm := ⟨_, rfl⟩
  rw [hbm] at I3 hs3 ⊢
  have HBM := Lib.hid hbm
  have hbm2 : g < bm := by omega
  clear hw3 hba hP hMR hC R2 Q2 hbm
  have c0 := I3.cell 0 _ rfl
  have c1 := I3.cell 1 _ rfl
  have c2 := I3.cell 2 _ rfl
  have c3 := I3.cell 3 _ rfl
  have hUd : Reads w3 w.heap.size 1 UA un uc (ul.flatMap intCells) := HU.out.keep fun b o hb => by
    have h1 := HBB.out
    have e1 := HB1.out.cell (p := ⟨b, o, none⟩) hb
    have e2 : w2.cell? ⟨b, o, none⟩ = w1.cell? ⟨b, o, none⟩ := World.cell?_of_block (a := ⟨b, o, none⟩) (HX2.out.block b (by omega) (by omega))
    have e3 := HB23.out.cell (p := ⟨b, o, none⟩) (by have := HBM.out; show b < w2.heap.size; omega)
    exact e3.trans (e2.trans e1)
  have hal : Below w3.heap.size w3 (World.drew (w3.alloc (.cells #[.slice UA un uc, .int .i64 0] 64))) := (keep_alloc (Below.refl _ _) _).drew
  have hT4 : TapeAt (World.drew (w3.alloc (.cells #[.slice UA un uc, .int .i64 0] 64))) (bm + 1) 0 := ⟨UA, un, uc, ul, (Blk.newAt w3 #[.slice UA un uc, .int .i64 0] 64 (bm + 1) hs3).drew, (hUd.alloc (by have := HBB.out; omega) _).drew.more (by have := HBB.out; omega)⟩
  have HCALL := Lib.hid (warp_any (bm + 1) 0 S ns cs F nf cf N nn cn M m cm fcs P ccs w3 _ hT4 (by omega) hal (by omega) hP3 hK hMR3 hC3 hm)
  have HPD := Lib.hid hP3
  have HK := Lib.hid hK
  clear hUd hal hT4 hP3 hMR3 hC3 hK
  go_upto_region 3 with fail
  refine wp_region_noPanic ?_
  refine wp_region_held_drew (S := fun u => OnlyX (fun i => i = bb ∨ i = r1) w3 u) (by kernel_rfl) (OnlyX.refl.drew) (fun hHeld => ?_)
  refine wpAnyH_take (i := 0) (v := ?_) rfl (by kernel_rfl) (by kernel_rfl) (by kernel_rfl) (fun _ _ _ h => h) (Or.inl ⟨by rfl, ?_⟩) (by assumption) ?_
  rotate_left
  · intro wq hSw; clear hSw; go_simp; (try with_reducible rfl)
  (try simp only [List.getElem_toArray, List.getElem_cons_zero, List.getElem_cons_succ, Act.put, List.setIfInBounds_toArray, List.set_cons_zero, List.set_cons_succ])
  refine wpAnyH_take (i := 1) (v := ?_) rfl (by kernel_rfl) (by kernel_rfl) (by kernel_rfl) (fun _ _ _ h => h) (Or.inl ⟨by rfl, ?_⟩) (by assumption) ?_
  rotate_left
  · intro wq hSw; have z0 := hSw.cell (v := _) c0 (by omega); have z1 := hSw.cell (v := _) c1 (by omega); have z2 := hSw.cell (v := _) c2 (by omega); have z3 := hSw.cell (v := _) c3 (by omega); clear hSw; go_simp; (try with_reducible rfl)
  (try simp only [List.getElem_toArray, List.getElem_cons_zero, List.getElem_cons_succ, Act.put, List.setIfInBounds_toArray, List.set_cons_zero, List.set_cons_succ])
  refine wpAnyH_take (i := 2) (v := ?_) rfl (by kernel_rfl) (by kernel_rfl) (by kernel_rfl) (fun _ _ _ h => h) (Or.inl ⟨by rfl, ?_⟩) (by assumption) ?_
  rotate_left
  · intro wq hSw; have z0 := hSw.cell (v := _) c0 (by omega); have z1 := hSw.cell (v := _) c1 (by omega); have z2 := hSw.cell (v := _) c2 (by omega); have z3 := hSw.cell (v := _) c3 (by omega); clear hSw; go_simp; (try with_reducible rfl)
  (try simp only [List.getElem_toArray, List.getElem_cons_zero, List.getElem_cons_succ, Act.put, List.setIfInBounds_toArray, List.set_cons_zero, List.set_cons_succ])
  refine wpAnyH_take (i := 3) (v := ?_) rfl (by kernel_rfl) (by kernel_rfl) (by kernel_rfl) (fun _ _ _ h => h) (Or.inl ⟨by rfl, ?_⟩) (by assumption) ?_
  rotate_left
  · intro wq hSw; clear hSw; go_simp; (try with_reducible rfl)
  (try simp only [List.getElem_toArray, List.getElem_cons_zero, List.getElem_cons_succ, Act.put, List.setIfInBounds_toArray, List.set_cons_zero, List.set_cons_succ])
  refine wpAnyH_take (i := 4) (v := ?_) rfl (by kernel_rfl) (by kernel_rfl) (by kernel_rfl) (fun _ _ _ h => h) (Or.inl ⟨by rfl, ?_⟩) (by assumption) ?_
  rotate_left
  · intro wq hSw; clear hSw; go_simp; (try with_reducible rfl)
  (try simp only [List.getElem_toArray, List.getElem_cons_zero, List.getElem_cons_succ, Act.put, List.setIfInBounds_toArray, List.set_cons_zero, List.set_cons_succ])
  refine wpAnyH_ready (rs := [5]) (by kernel_rfl) (by simp) ?_
  refine AllReadyH.cons (i := 5) (by rfl) ?_ (AllReadyH.nil)
  intro K' hK
  simp only [List.getElem_toArray, List.getElem_cons_zero, List.getElem_cons_succ]
  refine if_yes (by kernel_rfl) ?_
  go_big_op
  refine hK.out _ _ ?_ (fun hHeld2 => ?_)
  · exact hHeld.alloc _
  clear hK K' hHeld
  have hHeld := hHeld2
  clear hHeld2
  (try simp only [List.getElem_toArray, List.getElem_cons_zero, List.getElem_cons_succ, Act.put, List.setIfInBounds_toArray, List.set_cons_zero, List.set_cons_succ])
  refine wpAnyH_ready (rs := [6]) (by kernel_rfl) (by simp) ?_
  refine AllReadyH.cons (i := 6) (by rfl) ?_ (AllReadyH.nil)
  intro K' hK
  simp only [List.getElem_toArray, List.getElem_cons_zero, List.getElem_cons_succ]
  refine if_yes (by kernel_rfl) ?_
  go_big_op
  (go_at_call 21; refine HCALL.out.mono ?_; rintro e w5 ⟨S2, ns2, cs2, F2, nf2, cf2, N2, nn2, cn2, M2, m2, cm2, fcs2, P2, rfl, hP2, hk2, hb5⟩)
  refine hK.out _ _ ?_ (fun hHeld2 => ?_)
  · exact OnlyX.belowU hb5
  clear hK K' hHeld
  have hHeld := hHeld2
  clear hHeld2
  (try simp only [List.getElem_toArray, List.getElem_cons_zero, List.getElem_cons_succ, Act.put, List.setIfInBounds_toArray, List.set_cons_zero, List.set_cons_succ])
  have R5 := R3.below hb5
  have Q5 := Q3.below hb5
  have d0 := R5.cell 0 _ rfl
  have d1 := R5.cell 1 _ rfl
  have d2 := R5.cell 2 _ rfl
  have f0 := Q5.cell 0 _ rfl
  have f1 := Q5.cell 1 _ rfl
  have f2 := Q5.cell 2 _ rfl
  have df := R5.free
  have ff := Q5.free
  have hfe : ∀ wq, Sem.run Tryd.prog (Instr.field 67 (imgV S2 ns2 cs2 F2 nf2 cf2 N2 nn2 cn2 M2 m2 cm2) 0) wq = .ok (prV S2 ns2 cs2 F2 nf2 cf2 N2 nn2 cn2) wq := fun wq => by rfl
  refine wpAnyH_take (i := 7) (v := prV S2 ns2 cs2 F2 nf2 cf2 N2 nn2 cn2) rfl (by kernel_rfl) (by kernel_rfl) (by kernel_rfl) (fun _ _ _ h => h) (Or.inl ⟨by rfl, ?_⟩) (by assumption) ?_
  · intro wq hSw; clear hSw; go_simp
  clear hfe
  (try simp only [List.getElem_toArray, List.getElem_cons_zero, List.getElem_cons_succ, Act.put, List.setIfInBounds_toArray, List.set_cons_zero, List.set_cons_succ])
  refine wpAnyH_ready (rs := [8]) (by kernel_rfl) (by simp) ?_
  refine AllReadyH.cons (i := 8) (by rfl) ?_ (AllReadyH.nil)
  intro K' hK
  simp only [List.getElem_toArray, List.getElem_cons_zero, List.getElem_cons_succ]
  refine if_yes (by kernel_rfl) ?_
  go_big_op
  refine hK.out _ _ ?_ (fun hHeld2 => ?_)
  · exact ((hHeld.set (p := ⟨bb, 0, none⟩) (fun _ => Or.inl rfl) _).set (p := ⟨bb, 1, none⟩) (fun _ => Or.inl rfl) _).set (p := ⟨bb, 2, none⟩) (fun _ => Or.inl rfl) _
  clear hK K' hHeld
  have hHeld := hHeld2
  clear hHeld2
  (try simp only [List.getElem_toArray, List.getElem_cons_zero, List.getElem_cons_succ, Act.put, List.setIfInBounds_toArray, List.set_cons_zero, List.set_cons_succ])
  refine wpAnyH_ready (rs := [9]) (by kernel_rfl) (by simp) ?_
  refine AllReadyH.cons (i := 9) (by rfl) ?_ (AllReadyH.nil)
  intro K' hK
  simp only [List.getElem_toArray, List.getElem_cons_zero, List.getElem_cons_succ]
  refine if_yes (by kernel_rfl) ?_
  go_big_op
  refine hK.out _ _ ?_ (fun hHeld2 => ?_)
  · exact ((hHeld.set (p := ⟨r1, 0, none⟩) (fun _ => Or.inr rfl) _).set (p := ⟨r1, 1, none⟩) (fun _ => Or.inr rfl) _).set (p := ⟨r1, 2, none⟩) (fun _ => Or.inr rfl) _
  clear hK K' hHeld
  have hHeld := hHeld2
  clear hHeld2
  (try simp only [List.getElem_toArray, List.getElem_cons_zero, List.getElem_cons_succ, Act.put, List.setIfInBounds_toArray, List.set_cons_zero, List.set_cons_succ])
  refine wpAnyH_done (by kernel_rfl) ?_ _
  refine NoPanic.normal ?_
  have hne : bb ≠ r1 := by omega
  have Rf : Blk ((((((w5.setCell ⟨bb, 0, none⟩ (.slice S ns cs)).setCell ⟨bb, 1, none⟩ (.slice F nf cf)).setCell ⟨bb, 2, none⟩ (.slice N nn cn)).setCell ⟨r1, 0, none⟩ (.slice S2 ns2 cs2)).setCell ⟨r1, 1, none⟩ (.slice F2 nf2 cf2)).setCell ⟨r1, 2, none⟩ (.slice N2 nn2 cn2)) bb 26 #[.slice S ns cs, .slice F nf cf, .slice N nn cn] := (((((R5.set 0 (.slice S ns cs)).set 1 (.slice F nf cf)).set 2 (.slice N nn cn)).far (p := ⟨r1, 0, none⟩) hne _).far (p := ⟨r1, 1, none⟩) hne _).far (p := ⟨r1, 2, none⟩) hne _
  have Qf : Blk ((((((w5.setCell ⟨bb, 0, none⟩ (.slice S ns cs)).setCell ⟨bb, 1, none⟩ (.slice F nf cf)).setCell ⟨bb, 2, none⟩ (.slice N nn cn)).setCell ⟨r1, 0, none⟩ (.slice S2 ns2 cs2)).setCell ⟨r1, 1, none⟩ (.slice F2 nf2 cf2)).setCell ⟨r1, 2, none⟩ (.slice N2 nn2 cn2)) r1 26 #[.slice S2 ns2 cs2, .slice F2 nf2 cf2, .slice N2 nn2 cn2] := (((((Q5.far (p := ⟨bb, 0, none⟩) hne.symm _).far (p := ⟨bb, 1, none⟩) hne.symm _).far (p := ⟨bb, 2, none⟩) hne.symm _).set 0 (.slice S2 ns2 cs2)).set 1 (.slice F2 nf2 cf2)).set 2 (.slice N2 nn2 cn2)
  have h5f : OnlyX (fun i => i = bb ∨ i = r1) w5 ((((((w5.setCell ⟨bb, 0, none⟩ (.slice S ns cs)).setCell ⟨bb, 1, none⟩ (.slice F nf cf)).setCell ⟨bb, 2, none⟩ (.slice N nn cn)).setCell ⟨r1, 0, none⟩ (.slice S2 ns2 cs2)).setCell ⟨r1, 1, none⟩ (.slice F2 nf2 cf2)).setCell ⟨r1, 2, none⟩ (.slice N2 nn2 cn2)) := ((((((OnlyX.refl (X := fun i => i = bb ∨ i = r1)).set (p := ⟨bb, 0, none⟩) (fun _ => Or.inl rfl) _).set (p := ⟨bb, 1, none⟩) (fun _ => Or.inl rfl) _).set (p := ⟨bb, 2, none⟩) (fun _ => Or.inl rfl) _).set (p := ⟨r1, 0, none⟩) (fun _ => Or.inr rfl) _).set (p := ⟨r1, 1, none⟩) (fun _ => Or.inr rfl) _).set (p := ⟨r1, 2, none⟩) (fun _ => Or.inr rfl) _
  obtain ⟨wf, hwf⟩ : ∃ wf, (((((w5.setCell ⟨bb, 0, none⟩ (.slice S ns cs)).setCell ⟨bb, 1, none⟩ (.slice F nf cf)).setCell ⟨bb, 2, none⟩ (.slice N nn cn)).setCell ⟨r1, 0, none⟩ (.slice S2 ns2 cs2)).setCell ⟨r1, 1, none⟩ (.slice F2 nf2 cf2)).setCell ⟨r1, 2, none⟩ (.slice N2 nn2 cn2) = wf := ⟨_, rfl⟩
  rw [hwf] at Rf Qf h5f ⊢
  have hno : ∀ i, (fun i => i = bb ∨ i = r1) i → ∃ t cs, Blk w5 i t cs ∧ ∀ k z, Value.int k z ∉ cs.toList := fun i h => by
    rcases h with rfl | rfl
    · exact ⟨_, _, R5, fun k z => by simp⟩
    · exact ⟨_, _, Q5, fun k z => by simp⟩
  have HP1 := Lib.hid ((HPD.out.below hb5).onlyX hno h5f)
  have HP2 := Lib.hid (hP2.onlyX hno h5f)
  have HK2 := Lib.hid hk2
  have HBF := Lib.hid (show Below w.heap.size w wf from by
    have e0 := HBB.out
    have e1 := HBM.out
    have h2 := below_onlyX HB1.out HX2.out (fun i hi e => by omega)
    have h3 := h2.trans (HB23.out.mono (by omega))
    have h4 := h3.trans (hb5.mono (by omega))
    exact below_onlyX h4 h5f (fun i hi e => by rcases e with e | e <;> omega))
  have x0 := Rf.cell 0 _ rfl
  have x1 := Rf.cell 1 _ rfl
  have x2 := Rf.cell 2 _ rfl
  have y0 := Qf.cell 0 _ rfl
  have y1 := Qf.cell 1 _ rfl
  have y2 := Qf.cell 2 _ rfl
  clear hwf hno h5f Rf Qf R5 Q5 d0 d1 d2 f0 f1 f2 df ff hP2 hk2 hb5 hHeld c0 c1 c2 c3 I3 R3 Q3
  go_wp2_with fail
  refine bodyPost_ret (v := .tuple #[prV S ns cs F nf cf N nn cn, prV S2 ns2 cs2 F2 nf2 cf2 N2 nn2 cn2]) (by simp [results, Tryd.results7, go_sem, x0, x1, x2, y0, y1, y2]) rfl ?_
  exact ⟨S, ns, cs, F, nf, cf, N, nn, cn, fcs, P, S2, ns2, cs2, F2, nf2, cf2, N2, nn2, cn2, fcs2, P2, rfl, HP1.out, HK.out, HP2.out, HK2.out, HBF.out⟩
end Go.Proofs.YtnnchinpmnpfiaaDoor

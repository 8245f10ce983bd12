/- The walk of McodeChecks. -/
import Derived.Test.YtnnchinpmnpfiaaDoorKQ
import Derived.Test.YtnnchinpmnpfiaaDoorKO
import Derived.Test.YtnnchinpmnpfiaaDoorKG
import Derived.Deep.RegionHeld3
namespace Go.Proofs.YtnnchinpmnpfiaaDoor
open Go.ChangeShapes Go.WideShapes Go.RowKit Words

section
variable {H : Type} {enc : TypeId × Value → H} {w : World} {base b : Nat} {spare : Nat → Bool} {held : Bool}
set_option maxRecDepth 100000 in
theorem open_conf {v : Value} {d : DataW H} {ps : List MemPlace} (hv : Value.okWide Tryd.prog w .any b 28 v) (h : DataW.Trod enc Tryd.prog w base spare held 28 v d ps) : ∃ pw pg, v = confV pw pg ∧ I64 pw ∧ I64 pg := by
  obtain ⟨cs, rfl, _⟩ := okWide_struct Tryd.underlying28 hv
  obtain ⟨fuel, hf'⟩ := h
  obtain ⟨hl, hf⟩ := cells_struct Tryd.underlying28 (by kernel_rfl) (by kernel_rfl) hf'
  obtain ⟨v0, m0, z0, e0, t0⟩ := hf 0 _ rfl
  obtain ⟨v1, m1, z1, e1, t1⟩ := hf 1 _ rfl
  obtain ⟨a, ha, hra⟩ := cells_i64 Tryd.underlying3 t0
  obtain ⟨b, hb, hrb⟩ := cells_i64 Tryd.underlying3 t1
  simp only [List.cons.injEq, and_true] at ha hb
  subst ha hb
  exact ⟨a, b, by rw [← Array.toArray_toList (xs := cs), show cs.toList = _ from list2 hl e0 e1], hra, hrb⟩
end
set_option linter.unusedSimpArgs false in
set_option linter.unusedVariables false in
set_option maxRecDepth 100000 in
set_option maxHeartbeats 8000000 in
theorem walkMcodeChecks {H : Type} {enc : TypeId × Value → H} (W : World) (base : Nat) (hPl : Plain W) {v0 v1 v2 v3 : Value} {d0 d1 d2 d3 : DataW H} {p0 p1 p2 p3 : List MemPlace}
    (o0 : Value.okWide Tryd.prog W .any base 26 v0) (h0 : DataW.Trod enc Tryd.prog W 0 (fun _ => true) true 26 v0 d0 p0)
    (o1 : Value.okWide Tryd.prog W .any base 24 v1) (h1 : DataW.Trod enc Tryd.prog W 0 (fun _ => true) true 24 v1 d1 p1)
    (o2 : Value.okWide Tryd.prog W .any base 24 v2) (h2 : DataW.Trod enc Tryd.prog W 0 (fun _ => true) true 24 v2 d2 p2)
    (o3 : Value.okWide Tryd.prog W .any base 28 v3) (h3 : DataW.Trod enc Tryd.prog W 0 (fun _ => true) true 28 v3 d3 p3) :
    Calls Tryd.prog 3 #[v0, v1, v2, v3] W fun e w' => e = .returned (.bool true) ∧ Below W.heap.size W w' := by
  obtain ⟨S, ns, cs, F, nf, cf, N, nn, cn, P, fcs, rfl, hR, hI⟩ := open_prg o0 h0
  obtain ⟨TA, tn, tc, tl, rfl, hTr, -⟩ := open_i64s Tryd.underlying24 Tryd.underlying3 (by kernel_rfl) o1 h1
  obtain ⟨UA, un, uc, ul, rfl, hUr, -⟩ := open_i64s Tryd.underlying24 Tryd.underlying3 (by kernel_rfl) o2 h2
  obtain ⟨pw, pg, rfl, -, -⟩ := open_conf o3 h3
  clear o0 h0 o1 h1 o2 h2 o3 h3
  have hB0 : Below W.heap.size W ((W.alloc (.cells #[.slice S ns cs, .slice F nf cf, .slice N nn cn] 26)).alloc (.cells #[.int .i64 pw, .int .i64 pg] 28)) := keep_alloc (keep_alloc (Below.refl _ _) _) _
  have X0 := (Blk.new W #[.slice S ns cs, .slice F nf cf, .slice N nn cn] 26).alloc (.cells #[.int .i64 pw, .int .i64 pg] 28)
  have C0 := Blk.newAt (W.alloc (.cells #[.slice S ns cs, .slice F nf cf, .slice N nn cn] 26)) #[.int .i64 pw, .int .i64 pg] 28 (W.heap.size + 1) (by simp)
  have x0 := X0.cell 0 _ rfl
  have x1 := X0.cell 1 _ rfl
  have x2 := X0.cell 2 _ rfl
  have HL := Lib.hid (light_any S ns cs F nf cf N nn cn P fcs _ (hR.below hB0))
  have HR := Lib.hid hR
  have HI := Lib.hid hI
  have HTR := Lib.hid hTr
  have HUR := Lib.hid hUr
  have HPL := Lib.hid hPl
  clear hR hI hTr hUr hPl
  go_enter Tryd.func3, Tryd.ntmps3
  go_wp2_with fail
  refine HL.out.mono ?_
  rintro e w1 ⟨v, rfl, hv, hb1⟩
  have hBw := keep_below hb1 hB0
  have X1 := X0.below hb1
  have C1 := C0.below hb1
  have HV := Lib.hid hv
  clear x0 x1 x2 X0 C0 hb1 hB0 HL hv
  cases v with
  | false =>
    go_wp2_with fail
    go_ret
    exact ⟨rfl, hBw⟩
  | true =>
    have HOK := Lib.hid ((HV.out rfl).ok HI.out)
    go_wp2_with fail
    refine (made_any TA tn tc tl UA un uc ul w1 (HTR.out.belowU hBw) (HUR.out.belowU hBw)).mono ?_
    rintro e w2 ⟨S1, ns1, cs1, F1, nf1, cf1, N1, nn1, cn1, fcs1, P1, S2, ns2, cs2, F2, nf2, cf2, N2, nn2, cn2, fcs2, P2, rfl, hP1, hK1, hP2, hK2, hb2⟩
    have X2 := X1.below hb2
    have C2 := C1.below hb2
    have hB2 := keep_below hb2 hBw
    have hba : Below w2.heap.size w2 (((w2.alloc (.cells #[.slice S1 ns1 cs1, .slice F1 nf1 cf1, .slice N1 nn1 cn1] 26)).alloc (.cells #[.slice S2 ns2 cs2, .slice F2 nf2 cf2, .slice N2 nn2 cn2] 26)).alloc (.cells #[.int .i64 16, .int .i64 8] 28)) := keep_alloc (keep_alloc (keep_alloc (Below.refl _ _) _) _) _
    have A1 := ((Blk.new w2 #[.slice S1 ns1 cs1, .slice F1 nf1 cf1, .slice N1 nn1 cn1] 26).alloc (.cells #[.slice S2 ns2 cs2, .slice F2 nf2 cf2, .slice N2 nn2 cn2] 26)).alloc (.cells #[.int .i64 16, .int .i64 8] 28)
    have A2 := (Blk.newAt (w2.alloc (.cells #[.slice S1 ns1 cs1, .slice F1 nf1 cf1, .slice N1 nn1 cn1] 26)) #[.slice S2 ns2 cs2, .slice F2 nf2 cf2, .slice N2 nn2 cn2] 26 (w2.heap.size + 1) (by simp)).alloc (.cells #[.int .i64 16, .int .i64 8] 28)
    have A3 := Blk.newAt ((w2.alloc (.cells #[.slice S1 ns1 cs1, .slice F1 nf1 cf1, .slice N1 nn1 cn1] 26)).alloc (.cells #[.slice S2 ns2 cs2, .slice F2 nf2 cf2, .slice N2 nn2 cn2] 26)) #[.int .i64 16, .int .i64 8] 28 (w2.heap.size + 1 + 1) (by simp)
    have X3 := X2.below hba
    have C3 := C2.below hba
    have hP13 := hP1.below hba
    have hP23 := hP2.below hba
    have hB3 := keep_below hba hB2
    clear X1 C1 hb2 hBw X2 C2 hP1 hP2
    go_upto_region 5 with fail
    obtain ⟨w3, hw3⟩ : ∃ w3, ((w2.alloc (.cells #[.slice S1 ns1 cs1, .slice F1 nf1 cf1, .slice N1 nn1 cn1] 26)).alloc (.cells #[.slice S2 ns2 cs2, .slice F2 nf2 cf2, .slice N2 nn2 cn2] 26)).alloc (.cells #[.int .i64 16, .int .i64 8] 28) = w3 := ⟨_, rfl⟩
    rw [hw3] at A1 A2 A3 X3 C3 hP13 hP23 hB3 ⊢
    obtain ⟨a, ha⟩ : ∃ a, w2.heap.size = a := ⟨_, rfl⟩
    rw [ha] at A1 A2 A3 ⊢
    clear hw3 ha hba hB2
    have x0 := X3.cell 0 _ rfl
    have x1 := X3.cell 1 _ rfl
    have x2 := X3.cell 2 _ rfl
    have y0 := A1.cell 0 _ rfl
    have y1 := A1.cell 1 _ rfl
    have y2 := A1.cell 2 _ rfl
    have z0 := A2.cell 0 _ rfl
    have z1 := A2.cell 1 _ rfl
    have z2 := A2.cell 2 _ rfl
    have hba : Below w3.heap.size w3 (w3.alloc (.cells #[.slice S1 ns1 cs1, .slice F1 nf1 cf1, .slice N1 nn1 cn1, .slice S2 ns2 cs2, .slice F2 nf2 cf2, .slice N2 nn2 cn2, .slice S ns cs, .slice F nf cf, .slice N nn cn] 26)) := keep_alloc (Below.refl _ _) _
    have A4 := Blk.new w3 #[.slice S1 ns1 cs1, .slice F1 nf1 cf1, .slice N1 nn1 cn1, .slice S2 ns2 cs2, .slice F2 nf2 cf2, .slice N2 nn2 cn2, .slice S ns cs, .slice F nf cf, .slice N nn cn] 26
    have A1' := A1.below hba
    have A3' := A3.below hba
    have C4 := C3.below hba
    have hP14 := hP13.below hba
    have hP24 := hP23.below hba
    have hB4 := keep_below hba hB3
    go_wp2_with fail
    clear x0 x1 x2 y0 y1 y2 z0 z1 z2 hba A1 A2 A3 C3 X3 hP13 hP23 hB3
    obtain ⟨w4, hw4⟩ : ∃ w4, w3.alloc (.cells #[.slice S1 ns1 cs1, .slice F1 nf1 cf1, .slice N1 nn1 cn1, .slice S2 ns2 cs2, .slice F2 nf2 cf2, .slice N2 nn2 cn2, .slice S ns cs, .slice F nf cf, .slice N nn cn] 26) = w4 := ⟨_, rfl⟩
    rw [hw4] at A4 A1' A3' C4 hP14 hP24 hB4 ⊢
    obtain ⟨b4, hb4⟩ : ∃ b4, w3.heap.size = b4 := ⟨_, rfl⟩
    rw [hb4] at A4 ⊢
    clear hw4 hb4
    go_loopw [29] (fun x wq => ∃ i : Nat, i ≤ 3 ∧ x = .int .i64 i ∧ Below w4.heap.size w4 wq) (fun x _ => 3 - (intOf x).toNat)
    case atStart => exact ⟨0, by omega, rfl, Below.refl _ _⟩
    case round =>
      obtain ⟨i, hi, rfl, hb⟩ := hrel
      by_cases hlt : i < 3
      · have hcase : ∃ (Sx : Option Addr) (nsx csx : Nat) (Fx : Option Addr) (nfx cfx : Nat) (Nx : Option Addr) (nnx cnx : Nat) (fcsx : List FC) (Px : Prg), PrAt wr Sx nsx csx Fx nfx cfx Nx nnx cnx Px fcsx ∧ Px.ok ∧ wr.cell? ⟨b4, i * 3, none⟩ = some (.slice Sx nsx csx) ∧ wr.cell? ⟨b4, i * 3 + 1, none⟩ = some (.slice Fx nfx cfx) ∧ wr.cell? ⟨b4, i * 3 + 2, none⟩ = some (.slice Nx nnx cnx) := by
          have A5 := A4.below hb
          have hi3 : i = 0 ∨ i = 1 ∨ i = 2 := by omega
          rcases hi3 with rfl | rfl | rfl
          · exact ⟨_, _, _, _, _, _, _, _, _, _, _, hP14.below hb, hK1.ok, A5.cell 0 _ rfl, A5.cell 1 _ rfl, A5.cell 2 _ rfl⟩
          · exact ⟨_, _, _, _, _, _, _, _, _, _, _, hP24.below hb, hK2, A5.cell 3 _ rfl, A5.cell 4 _ rfl, A5.cell 5 _ rfl⟩
          · exact ⟨_, _, _, _, _, _, _, _, _, _, _, HR.out.below (keep_below hb hB4), HOK.out, A5.cell 6 _ rfl, A5.cell 7 _ rfl, A5.cell 8 _ rfl⟩
        obtain ⟨Sx, nsx, csx, Fx, nfx, cfx, Nx, nnx, cnx, fcsx, Px, hPx, hkx, g0, g1, g2⟩ := hcase
        have i0 : (0 : Int) ≤ (i : Int) := by omega
        have i1 : (i : Int) < 3 := by omega
        have hd : decide ((i : Int) < 3) = true := decide_eq_true i1
        have hd2 : decide (i < 3) = true := decide_eq_true hlt
        have wi : IntKind.i64.wrap ((i : Int) + 1) = (i : Int) + 1 := IntWalk.i64_in _ (by omega)
        have hba : Below wr.heap.size wr (wr.alloc (.cells #[.slice Sx nsx csx, .slice Fx nfx cfx, .slice Nx nnx cnx] 26)) := keep_alloc (Below.refl _ _) _
        have D5 := Blk.new wr #[.slice Sx nsx csx, .slice Fx nfx cfx, .slice Nx nnx cnx] 26
        have C5 := (C4.below hb).below hba
        have E5 := (A3'.below hb).below hba
        have hPx5 := hPx.below hba
        have HB5 := Lib.hid (keep_below hba hb)
        go_upto_region 8 with fail
        obtain ⟨w5, hw5⟩ : ∃ w5, wr.alloc (.cells #[.slice Sx nsx csx, .slice Fx nfx cfx, .slice Nx nnx cnx] 26) = w5 := ⟨_, rfl⟩
        rw [hw5] at D5 C5 E5 hPx5 HB5 ⊢
        obtain ⟨bx, hbx⟩ : ∃ bx, wr.heap.size = bx := ⟨_, rfl⟩
        rw [hbx] at D5 ⊢
        have HPX := Lib.hid (fun u (hu : Below w5.heap.size w5 u) => hPx5.below hu)
        have hPl5 : Plain w5 := HPL.out.below (keep_below HB5.out hB4)
        have HPLX := Lib.hid (fun u (hu : Below w5.heap.size w5 u) => hPl5.below hu)
        have HKX := Lib.hid hkx
        have x0 : w5.cell? ⟨bx, 0, none⟩ = some (.slice Sx nsx csx) := D5.cell 0 _ rfl
        have x1 : w5.cell? ⟨bx, 1, none⟩ = some (.slice Fx nfx cfx) := D5.cell 1 _ rfl
        have x2 : w5.cell? ⟨bx, 2, none⟩ = some (.slice Nx nnx cnx) := D5.cell 2 _ rfl
        have y0 : w5.cell? ⟨W.heap.size + 1, 0, none⟩ = some (.int .i64 pw) := C5.cell 0 _ rfl
        have y1 : w5.cell? ⟨W.heap.size + 1, 1, none⟩ = some (.int .i64 pg) := C5.cell 1 _ rfl
        have z0 : w5.cell? ⟨a + 1 + 1, 0, none⟩ = some (.int .i64 16) := E5.cell 0 _ rfl
        have z1 : w5.cell? ⟨a + 1 + 1, 1, none⟩ = some (.int .i64 8) := E5.cell 1 _ rfl
        have hZ : Below w5.heap.size w5 w5 := Below.refl _ _
        have n1 : (checkE Px pw pg != checkE Px pw pg) = false := by simp
        have n2 : (checkE Px 16 8 != checkE Px 16 8) = false := by simp
        clear hw5 hbx hba D5 C5 E5 hPx5 hPx g0 g1 g2 hPl5 hkx hb
        go_region_held3 (fun w' => w'.cell? ⟨bx, 0, none⟩ = some (.slice Sx nsx csx) ∧ w'.cell? ⟨bx, 1, none⟩ = some (.slice Fx nfx cfx) ∧ w'.cell? ⟨bx, 2, none⟩ = some (.slice Nx nnx cnx) ∧ w'.cell? ⟨W.heap.size + 1, 0, none⟩ = some (.int .i64 pw) ∧ w'.cell? ⟨W.heap.size + 1, 1, none⟩ = some (.int .i64 pg) ∧ w'.cell? ⟨a + 1 + 1, 0, none⟩ = some (.int .i64 16) ∧ w'.cell? ⟨a + 1 + 1, 1, none⟩ = some (.int .i64 8) ∧ Below w5.heap.size w5 w')
          (first | (go_split_ands; refine ⟨?_, ?_, ?_, ?_, ?_, ?_, ?_, ?_⟩ <;> first | assumption | (refine keep_cell hb ?_; assumption) | (refine keep_below hb ?_; assumption) | (refine Below.drew ?_; assumption)) | go_keep)
          (first
            | (go_at_call 9; refine (given_any Sx nsx csx Fx nfx cfx Nx nnx cnx Px fcsx _ (HPX.out _ (by go_split_ands; assumption)) HKX.out).mono ?_; rintro e w' ⟨F', cf', fcs', rfl, hP', hb⟩)
            | (go_at_call 8; refine (check_any _ _ Sx nsx csx _ nfx _ Nx nnx cnx Px _ _ (HPLX.out _ (by go_split_ands; assumption)) hP' HKX.out).mono ?_; rintro e w' ⟨rfl, hb⟩)
            | (go_at_call 10; refine (rcheck_any _ _ Sx nsx csx Fx nfx cfx Nx nnx cnx Px fcsx _ (HPX.out _ (by go_split_ands; assumption)) HKX.out).mono ?_; rintro e w' ⟨rfl, hb⟩))
        rename_i hHeld
        obtain ⟨-, -, -, -, -, -, -, hV⟩ := hHeld
        clear x0 x1 x2 y0 y1 z0 z1 hZ n1 n2 hb hP'
        go_wp2_with fail
        go_roundw
        case rel => exact ⟨i + 1, by omega, by go_num, keep_below hV HB5.out⟩
        case measure => simp [intOf]; omega
      · have hin : i = 3 := by omega
        subst hin
        have hd : decide ((3 : Int) < 3) = false := by simp
        have A5 := A1'.below hb
        have E5 := A3'.below hb
        have hB5 := keep_below hb hB4
        have HB5 := Lib.hid hB5
        have hP15 := hP14.below hb
        have HPX := Lib.hid (fun u (hu : Below wr.heap.size wr u) => hP15.below hu)
        have hPl5 : Plain wr := HPL.out.below hB5
        have HPLX := Lib.hid (fun u (hu : Below wr.heap.size wr u) => hPl5.below hu)
        have HKX := Lib.hid hK1.ok
        have x0 : wr.cell? ⟨a, 0, none⟩ = some (.slice S1 ns1 cs1) := A5.cell 0 _ rfl
        have x1 : wr.cell? ⟨a, 1, none⟩ = some (.slice F1 nf1 cf1) := A5.cell 1 _ rfl
        have x2 : wr.cell? ⟨a, 2, none⟩ = some (.slice N1 nn1 cn1) := A5.cell 2 _ rfl
        have z0 : wr.cell? ⟨a + 1 + 1, 0, none⟩ = some (.int .i64 16) := E5.cell 0 _ rfl
        have z1 : wr.cell? ⟨a + 1 + 1, 1, none⟩ = some (.int .i64 8) := E5.cell 1 _ rfl
        have hZ : Below wr.heap.size wr wr := Below.refl _ _
        have hc : (checkE P1 16 8 == 0) = true := by rw [checkE_yes (made_right hK1)]; rfl
        clear A5 E5 hB5 hP15 hPl5 hb A4 A1' A3' C4 hP14 hP24 hB4 hlt hi hK1 hK2
        go_upto_region 11 with fail
        go_region_held3 (fun w' => w'.cell? ⟨a, 0, none⟩ = some (.slice S1 ns1 cs1) ∧ w'.cell? ⟨a, 1, none⟩ = some (.slice F1 nf1 cf1) ∧ w'.cell? ⟨a, 2, none⟩ = some (.slice N1 nn1 cn1) ∧ w'.cell? ⟨a + 1 + 1, 0, none⟩ = some (.int .i64 16) ∧ w'.cell? ⟨a + 1 + 1, 1, none⟩ = some (.int .i64 8) ∧ Below wr.heap.size wr w')
          (first | (go_split_ands; refine ⟨?_, ?_, ?_, ?_, ?_, ?_⟩ <;> first | assumption | (refine keep_cell hb ?_; assumption) | (refine keep_below hb ?_; assumption) | (refine Below.drew ?_; assumption)) | go_keep)
          (first
            | (go_at_call 11; refine (awake_any _).mono ?_; rintro e w' ⟨rfl, hb⟩)
            | (go_at_call 9; refine (given_any S1 ns1 cs1 F1 nf1 cf1 N1 nn1 cn1 P1 fcs1 _ (HPX.out _ (by go_split_ands; assumption)) HKX.out).mono ?_; rintro e w' ⟨F', cf', fcs', rfl, hP', hb⟩)
            | (go_at_call 8; refine (check_any _ _ S1 ns1 cs1 _ nf1 _ N1 nn1 cn1 P1 _ _ (HPLX.out _ (by go_split_ands; assumption)) hP' HKX.out).mono ?_; rintro e w' ⟨rfl, hb⟩))
        rename_i hHeld
        obtain ⟨-, -, -, -, -, hV⟩ := hHeld
        clear x0 x1 x2 z0 z1 hZ hb hP'
        go_wp2_with fail
        go_ret
        exact ⟨rfl, keep_below hV HB5.out⟩
end Go.Proofs.YtnnchinpmnpfiaaDoor

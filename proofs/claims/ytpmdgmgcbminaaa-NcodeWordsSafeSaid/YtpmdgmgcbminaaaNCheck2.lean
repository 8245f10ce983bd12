/- The contracts of Check: the program's and the reference's. PRINTED BY A PROGRAM (mk_ncheck2.py). -/
import Derived.Test.YtpmdgmgcbminaaaNCheck1
import Derived.Test.YtpmdgmgcbminaaaLag
namespace Go.Proofs.Ytpmdgmgcbminaaa
open Go.ChangeShapes Go.WideShapes Go.RowKit Words

theorem sound_val (g : Int) (A : Option Addr) (n c : Nat) (x : NI) (w : World) (v : Bool) (hn : n ≤ 1000000) (hf : formedI x = true) (hv : soundI n x = v) :
    Calls Try.prog 34 #[codeV g A n c, insV x] w fun e w' => e = .returned (.bool v) ∧ Below w.heap.size w w' := by
  rw [← hv]; exact sound_any g A n c x w hn hf
def callI (x : NI) : Bool := !decide (x.op = 13) || decide (1 ≤ x.b ∧ x.b ≤ 20)
def upI (fl : List Int) (x : NI) : Bool := !decide (x.op = 14) || (match fl[x.b.toNat]? with | some p => decide (p ≤ 8 - x.c) | none => false)
def rightI (n : Nat) (fl : List Int) (x : NI) : Bool := soundI n x && (callI x && upI fl x)
def checkN (g : Int) (l : List NI) (fl : List Int) : Int := if formedC g l = true ∧ l.all (rightI l.length fl) = true then 0 else 16
theorem checkN_bad {g : Int} {l : List NI} {fl : List Int} (h : formedC g l = false) : checkN g l fl = 16 := by unfold checkN; rw [if_neg]; simp [h]
theorem checkN_no {g : Int} {l : List NI} {fl : List Int} {n : Nat} (hl : l.length = n) (h : l.all (rightI n fl) = false) : checkN g l fl = 16 := by unfold checkN; rw [if_neg]; simp [hl, h]
theorem checkN_ok {g : Int} {l : List NI} {fl : List Int} {n : Nat} (hl : l.length = n) (hf : formedC g l = true) (h : l.all (rightI n fl) = true) : checkN g l fl = 0 := by unfold checkN; rw [if_pos]; exact ⟨hf, by rw [hl]; exact h⟩
theorem ret_i {x y : Int} (h : x = y) : Ending.returned (.int .i64 x) = .returned (.int .i64 y) := by rw [h]
theorem all_no {α : Type} {p : α → Bool} {l : List α} {k : Nat} {a : α} (ha : l.all p = (l.drop k).all p) (h : l[k]? = some a) (hp : p a = false) : l.all p = false := by
  rw [ha, drop_at h, List.all_cons, hp]; rfl
theorem all_yes {α : Type} {p : α → Bool} {l : List α} {k : Nat} {a : α} (ha : l.all p = (l.drop k).all p) (h : l[k]? = some a) (hp : p a = true) : l.all p = (l.drop (k + 1)).all p := by
  rw [ha, drop_at h, List.all_cons, hp]; rfl
theorem all_end {α : Type} {p : α → Bool} {l : List α} {k : Nat} (ha : l.all p = (l.drop k).all p) (h : l.length ≤ k) : l.all p = true := by
  rw [ha, List.drop_eq_nil_of_le h]; rfl
theorem right_split (n : Nat) (fl : List Int) (op a b c : Int) (k : BitVec 64) {t r ca u : Bool} (ht : targetsI n ⟨op, a, b, c, k⟩ = t) (hr : regsI ⟨op, a, b, c, k⟩ = r) (hc : callI ⟨op, a, b, c, k⟩ = ca) (hu : upI fl ⟨op, a, b, c, k⟩ = u) :
    rightI n fl ⟨op, a, b, c, k⟩ = ((t && r) && (ca && u)) := by unfold rightI soundI; rw [ht, hr, hc, hu]
theorem upI_some {fl : List Int} {a c p : Int} {b : Nat} {k : BitVec 64} (h : fl[b]? = some p) : upI fl ⟨14, a, (b : Int), c, k⟩ = decide (p ≤ 8 - c) := by
  unfold upI; simp only [Int.toNat_natCast, h]; simp
theorem upI_none {fl : List Int} {a c : Int} {b nf : Nat} {k : BitVec 64} (hl : fl.length = nf) (h : ¬ b < nf) : upI fl ⟨14, a, (b : Int), c, k⟩ = false := by
  unfold upI; simp only [Int.toNat_natCast, List.getElem?_eq_none (show fl.length ≤ b by omega)]; simp
theorem upI_else {fl : List Int} {op a b c : Int} {k : BitVec 64} (h : op ≠ 14) : upI fl ⟨op, a, b, c, k⟩ = true := by unfold upI; simp [h]
theorem callI_else {op a b c : Int} {k : BitVec 64} (h : op ≠ 13) : callI ⟨op, a, b, c, k⟩ = true := by unfold callI; simp [h]
theorem callI_13 {a b c : Int} {k : BitVec 64} : callI ⟨13, a, b, c, k⟩ = decide (1 ≤ b ∧ b ≤ 20) := by unfold callI; simp


set_option linter.unusedSimpArgs false in
set_option maxRecDepth 100000 in
set_option maxHeartbeats 4000000 in
theorem check_any (g : Int) (A : Option Addr) (n c : Nat) (l : List NI) (F : Option Addr) (nf cf : Nat) (fl : List Int) (w : World) (h : Reads w w.heap.size 5 A n c (l.flatMap insCells)) (hF : Reads w w.heap.size 1 F nf cf (fl.flatMap intCells)) (hn : n ≤ 1000000) :
    Calls Try.prog 22 #[codeV g A n c, .slice F nf cf] w fun e w' => e = .returned (.int .i64 (checkN g l fl)) ∧ Below w.heap.size w w' := by
  have hlen := h.length insCells_len (by omega)
  have hflen := hF.length (fun _ => rfl) (by omega)
  have hW := code_alloc w 37 g A n c
  have B0 := Blk.new w #[.int .i64 g, .slice A n c] 37
  have HL := Lib.hid hlen
  have HFL := Lib.hid hflen
  have hh := h.belowU hW
  have hhF := hF.belowU hW
  clear hlen hflen
  by_cases hf' : formedC g l = false
  · have HV := Lib.hid (checkN_bad (fl := fl) hf')
    go_enter Try.func22, Try.ntmps22
    go_wp2_with ((go_at_call 28; refine (formed_any g A n c l _ hh).mono ?_; rw [hf']; rintro e w' ⟨rfl, hb⟩))
    go_ret
    exact ⟨ret_i HV.out.symm, keep_below hb hW⟩
  have hf : formedC g l = true := by simpa using hf'
  clear hf'
  have hall := (formedC_parts hf).2.2
  have HF := Lib.hid hf
  have HA := Lib.hid hall
  clear hall hf
  go_enter Try.func22, Try.ntmps22
  go_wp2_with fail
  refine (formed_any g A n c l _ hh).mono ?_
  rw [HF.out]
  rintro e w1 ⟨rfl, hb1⟩
  have hW1 := keep_below hb1 hW
  have B1 := B0.below hb1
  have hh1 := hh.belowU hb1
  have hF1 := hhF.belowU hb1
  have p1 : w1.cell? ⟨w.heap.size, 1, none⟩ = some (.slice A n c) := B1.cell 1 _ rfl
  clear hh hhF h hF hb1 B0 hW
  go_wp2_with fail
  clear p1
  go_loopw [14] (fun x wq => ∃ k : Nat, k ≤ n ∧ x = .int .i64 k ∧ Below w1.heap.size w1 wq ∧ l.all (rightI n fl) = (l.drop k).all (rightI n fl)) (fun x _ => n - (intOf x).toNat)
  case atStart => exact ⟨0, Nat.zero_le _, rfl, Below.refl _ _, rfl⟩
  case round =>
    obtain ⟨k, hk, rfl, hb, hal⟩ := hrel
    have HAL := Lib.hid hal
    have Br := B1.below hb
    have q0 : wr.cell? ⟨w.heap.size, 0, none⟩ = some (.int .i64 g) := Br.cell 0 _ rfl
    have q1 : wr.cell? ⟨w.heap.size, 1, none⟩ = some (.slice A n c) := Br.cell 1 _ rfl
    have hBr := keep_below hb hW1
    clear hal
    by_cases hge : ¬ k < n
    · have HV := Lib.hid (checkN_ok HL.out HF.out (all_end HAL.out (by rw [HL.out]; omega)))
      go_wp2_with fail
      go_ret
      exact ⟨ret_i HV.out.symm, hBr⟩
    have hlt : k < n := by omega
    clear hge
    obtain ⟨b0, off, x, rfl, hbb, hx, hc⟩ := (hh1.belowU hb).elem insCells_len (by omega) hlt
    have HX := Lib.hid hx
    have hxf := HA.out x (List.mem_of_getElem? hx)
    have HXF := Lib.hid hxf
    obtain ⟨op, a, b, c', kk⟩ := x
    obtain ⟨⟨h1, h2⟩, -, ⟨hb0, hb1⟩, hc0, hc1⟩ := (formedI_iff _).1 hxf
    dsimp only at h1 h2 hb0 hb1 hc0 hc1
    have d0 : wr.cell? ⟨b0, off + k * 5, none⟩ = some (.int .i64 op) := hc 0 _ rfl
    have d1 := hc 1 _ rfl
    have d2 := hc 2 _ rfl
    have d3 := hc 3 _ rfl
    have d4 := hc 4 _ rfl
    dsimp only at d1 d2 d3 d4
    have hk0 : (0 : Int) ≤ (k : Int) := by omega
    have hk1 : (k : Int) < (n : Int) := by omega
    have X := Blk.new wr #[.int .i64 op, .int .i64 a, .int .i64 b, .int .i64 c', .int .u64 (U kk)] 60
    have hBx := keep_alloc hBr (.cells #[.int .i64 op, .int .i64 a, .int .i64 b, .int .i64 c', .int .u64 (U kk)] 60)
    have hbx := keep_alloc hb (.cells #[.int .i64 op, .int .i64 a, .int .i64 b, .int .i64 c', .int .u64 (U kk)] 60)
    have hFr := (hF1.belowU hb).belowU (keep_alloc (Below.refl _ _) (.cells #[.int .i64 op, .int .i64 a, .int .i64 b, .int .i64 c', .int .u64 (U kk)] 60))
    have p0a : (wr.alloc (.cells #[.int .i64 op, .int .i64 a, .int .i64 b, .int .i64 c', .int .u64 (U kk)] 60)).cell? ⟨w.heap.size, 0, none⟩ = some (.int .i64 g) := (Br.alloc _).cell 0 _ rfl
    have p1a : (wr.alloc (.cells #[.int .i64 op, .int .i64 a, .int .i64 b, .int .i64 c', .int .u64 (U kk)] 60)).cell? ⟨w.heap.size, 1, none⟩ = some (.slice (some ⟨b0, off, none⟩) n c) := (Br.alloc _).cell 1 _ rfl
    clear hx hxf hc
    go_wp2_with fail
    refine (targets_any g _ n c ⟨op, a, b, c', kk⟩ _ hn).mono ?_
    by_cases ht : targetsI n ⟨op, a, b, c', kk⟩ = false
    · have RN := Lib.hid (show rightI n fl ⟨op, a, b, c', kk⟩ = false from by unfold rightI soundI; rw [ht]; rfl)
      rw [ht]
      rintro e w2 ⟨rfl, hb2⟩
      have X2 := X.below hb2
      have hB2 := keep_below hb2 hBx
      clear ht p0a p1a
      have x0 : w2.cell? ⟨wr.heap.size, 0, none⟩ = some (.int .i64 op) := X2.cell 0 _ rfl
      have x2 : w2.cell? ⟨wr.heap.size, 2, none⟩ = some (.int .i64 b) := X2.cell 2 _ rfl
      have x3 : w2.cell? ⟨wr.heap.size, 3, none⟩ = some (.int .i64 c') := X2.cell 3 _ rfl
      have HV := Lib.hid (checkN_no (g := g) HL.out (all_no HAL.out HX.out RN.out))
      by_cases h13 : op = 13
      · subst h13
        go_wp2_with fail
        go_ret
        exact ⟨ret_i HV.out.symm, hB2⟩
      by_cases h14 : op = 14
      · subst h14
        go_wp2_with fail
        go_quiet (fail)
        go_wp2_with fail
        go_ret
        exact ⟨ret_i HV.out.symm, below_drewN hB2 _⟩
      have e13 : (op == 13) = false := by simp [h13]
      have e14 : (op == 14) = false := by simp [h14]
      go_wp2_with fail
      go_ret
      exact ⟨ret_i HV.out.symm, hB2⟩
    replace ht : targetsI n ⟨op, a, b, c', kk⟩ = true := by simpa using ht
    rw [ht]
    have HT := Lib.hid ht
    rintro e w2a ⟨rfl, hb2a⟩
    have X2a := X.below hb2a
    have y0 : w2a.cell? ⟨wr.heap.size, 0, none⟩ = some (.int .i64 op) := X2a.cell 0 _ rfl
    have y1 : w2a.cell? ⟨wr.heap.size, 1, none⟩ = some (.int .i64 a) := X2a.cell 1 _ rfl
    have y2 : w2a.cell? ⟨wr.heap.size, 2, none⟩ = some (.int .i64 b) := X2a.cell 2 _ rfl
    have y3 : w2a.cell? ⟨wr.heap.size, 3, none⟩ = some (.int .i64 c') := X2a.cell 3 _ rfl
    have y4 : w2a.cell? ⟨wr.heap.size, 4, none⟩ = some (.int .u64 (U kk)) := X2a.cell 4 _ rfl
    clear ht p0a p1a
    go_wp2_with fail
    refine (registers_any ⟨op, a, b, c', kk⟩ _ HXF.out).mono ?_
    clear y0 y1 y2 y3 y4
    by_cases hr : regsI ⟨op, a, b, c', kk⟩ = false
    · have RN := Lib.hid (show rightI n fl ⟨op, a, b, c', kk⟩ = false from by unfold rightI soundI; rw [HT.out, hr]; rfl)
      rw [hr]
      rintro e w2 ⟨rfl, hb2b⟩
      have hb2 := keep_below hb2b hb2a
      have X2 := X.below hb2
      have hB2 := keep_below hb2 hBx
      clear hr hb2a X2a hb2b
      have x0 : w2.cell? ⟨wr.heap.size, 0, none⟩ = some (.int .i64 op) := X2.cell 0 _ rfl
      have x2 : w2.cell? ⟨wr.heap.size, 2, none⟩ = some (.int .i64 b) := X2.cell 2 _ rfl
      have x3 : w2.cell? ⟨wr.heap.size, 3, none⟩ = some (.int .i64 c') := X2.cell 3 _ rfl
      have HV := Lib.hid (checkN_no (g := g) HL.out (all_no HAL.out HX.out RN.out))
      by_cases h13 : op = 13
      · subst h13
        go_wp2_with fail
        go_ret
        exact ⟨ret_i HV.out.symm, hB2⟩
      by_cases h14 : op = 14
      · subst h14
        go_wp2_with fail
        go_quiet (fail)
        go_wp2_with fail
        go_ret
        exact ⟨ret_i HV.out.symm, below_drewN hB2 _⟩
      have e13 : (op == 13) = false := by simp [h13]
      have e14 : (op == 14) = false := by simp [h14]
      go_wp2_with fail
      go_ret
      exact ⟨ret_i HV.out.symm, hB2⟩
    replace hr : regsI ⟨op, a, b, c', kk⟩ = true := by simpa using hr
    rw [hr]
    have HR := Lib.hid hr
    rintro e w2 ⟨rfl, hb2b⟩
    have hb2 := keep_below hb2b hb2a
    have X2 := X.below hb2
    have hB2 := keep_below hb2 hBx
    clear hr hb2a X2a hb2b
    have x0 : w2.cell? ⟨wr.heap.size, 0, none⟩ = some (.int .i64 op) := X2.cell 0 _ rfl
    have x2 : w2.cell? ⟨wr.heap.size, 2, none⟩ = some (.int .i64 b) := X2.cell 2 _ rfl
    have x3 : w2.cell? ⟨wr.heap.size, 3, none⟩ = some (.int .i64 c') := X2.cell 3 _ rfl
    by_cases h13 : op = 13
    · subst h13
      have RS := right_split n fl _ _ _ _ _ HT.out HR.out callI_13 (upI_else (by decide))
      by_cases hbr : 1 ≤ b ∧ b ≤ 20
      · rw [decide_eq_true hbr] at RS
        have HRS := Lib.hid RS
        obtain ⟨hb20, hb21⟩ := hbr
        have e1 : decide (1 ≤ b) = true := decide_eq_true hb20
        have e2 : decide (b ≤ 20) = true := decide_eq_true hb21
        clear RS
        go_wp2_with fail
        go_roundw
        case rel => exact ⟨k + 1, by omega, by go_num, keep_below hb2 hbx, all_yes HAL.out HX.out HRS.out⟩
        case measure => simp [intOf]; omega
      · rw [decide_eq_false hbr] at RS
        have HV := Lib.hid (checkN_no (g := g) HL.out (all_no HAL.out HX.out RS))
        clear RS
        by_cases hb20 : 1 ≤ b
        · have e1 : decide (1 ≤ b) = true := decide_eq_true hb20
          have e2 : decide (b ≤ 20) = false := decide_eq_false (by omega)
          go_wp2_with fail
          go_ret
          exact ⟨ret_i HV.out.symm, hB2⟩
        · have e1 : decide (1 ≤ b) = false := decide_eq_false hb20
          go_wp2_with fail
          go_ret
          exact ⟨ret_i HV.out.symm, hB2⟩
    by_cases h14 : op = 14
    · subst h14
      obtain ⟨bn, rfl⟩ : ∃ bn : Nat, b = bn := ⟨b.toNat, by omega⟩
      have hF2 := hFr.belowU hb2
      have hwc : IntKind.i64.wrap (8 - c') = 8 - c' := IntWalk.i64_in _ (by omega)
      by_cases hbn : bn < nf
      · obtain ⟨bf, offf, p, rfl, hbbf, hp, hcf⟩ := hF2.elem (fun _ => rfl) (by omega) hbn
        have HP := Lib.hid hp
        have f0 := hcf 0 _ rfl
        rw [Nat.mul_one, Nat.add_zero] at f0
        have hi0 : (0 : Int) ≤ (bn : Int) := by omega
        have hi1 : (bn : Int) < (nf : Int) := by omega
        have e1 : decide ((bn : Int) < (nf : Int)) = true := decide_eq_true hi1
        have RS := right_split n fl _ _ _ _ _ HT.out HR.out (callI_else (by decide)) (upI_some HP.out)
        clear hcf hp hF2
        by_cases hpc : p ≤ 8 - c'
        · rw [decide_eq_true hpc] at RS
          have HRS := Lib.hid RS
          have e2 : decide (p ≤ 8 - c') = true := decide_eq_true hpc
          clear RS hpc
          go_wp2_with fail
          go_quiet (fail)
          go_wp2_with fail
          go_roundw
          case rel => exact ⟨k + 1, by omega, by go_num, below_drewN (keep_below hb2 hbx) _, all_yes HAL.out HX.out HRS.out⟩
          case measure => simp [intOf]; omega
        · rw [decide_eq_false hpc] at RS
          have e2 : decide (p ≤ 8 - c') = false := decide_eq_false hpc
          have HV := Lib.hid (checkN_no (g := g) HL.out (all_no HAL.out HX.out RS))
          clear RS hpc
          go_wp2_with fail
          go_quiet (fail)
          go_wp2_with fail
          go_ret
          exact ⟨ret_i HV.out.symm, below_drewN hB2 _⟩
      · have RS := right_split n fl _ _ _ _ _ HT.out HR.out (callI_else (by decide)) (upI_none HFL.out hbn)
        have HV := Lib.hid (checkN_no (g := g) HL.out (all_no HAL.out HX.out RS))
        have e1 : decide ((bn : Int) < (nf : Int)) = false := decide_eq_false (by omega)
        clear RS hF2
        go_wp2_with fail
        go_quiet (fail)
        go_wp2_with fail
        go_ret
        exact ⟨ret_i HV.out.symm, below_drewN hB2 _⟩
    have HRS := Lib.hid (right_split n fl _ _ _ _ _ HT.out HR.out (callI_else h13) (upI_else h14))
    have e13 : (op == 13) = false := by simp [h13]
    have e14 : (op == 14) = false := by simp [h14]
    go_wp2_with fail
    go_roundw
    case rel => exact ⟨k + 1, by omega, by go_num, keep_below hb2 hbx, all_yes HAL.out HX.out HRS.out⟩
    case measure => simp [intOf]; omega

set_option linter.unusedSimpArgs false in
set_option maxRecDepth 100000 in
set_option maxHeartbeats 4000000 in
theorem rcheck_any (g : Int) (A : Option Addr) (n c : Nat) (l : List NI) (F : Option Addr) (nf cf : Nat) (fl : List Int) (w : World) (h : Reads w w.heap.size 5 A n c (l.flatMap insCells)) (hF : Reads w w.heap.size 1 F nf cf (fl.flatMap intCells)) (hn : n ≤ 1000000) :
    Calls Try.prog 23 #[codeV g A n c, .slice F nf cf] w fun e w' => e = .returned (.int .i64 (checkN g l fl)) ∧ Below w.heap.size w w' := by
  have hlen := h.length insCells_len (by omega)
  have hflen := hF.length (fun _ => rfl) (by omega)
  have hW := code_alloc w 27 g A n c
  have B0 := Blk.new w #[.int .i64 g, .slice A n c] 27
  have HL := Lib.hid hlen
  have HFL := Lib.hid hflen
  have hh := h.belowU hW
  have hhF := hF.belowU hW
  clear hlen hflen
  by_cases hf' : formedC g l = false
  · have HV := Lib.hid (checkN_bad (fl := fl) hf')
    go_enter Try.func23, Try.ntmps23
    go_wp2_with ((go_at_call 30; refine (rformed_any g A n c l _ hh).mono ?_; rw [hf']; rintro e w' ⟨rfl, hb⟩))
    go_ret
    exact ⟨ret_i HV.out.symm, keep_below hb hW⟩
  have hf : formedC g l = true := by simpa using hf'
  clear hf'
  have hall := (formedC_parts hf).2.2
  have HF := Lib.hid hf
  have HA := Lib.hid hall
  clear hall hf
  go_enter Try.func23, Try.ntmps23
  go_wp2_with fail
  refine (rformed_any g A n c l _ hh).mono ?_
  rw [HF.out]
  rintro e w1 ⟨rfl, hb1⟩
  have hW1 := keep_below hb1 hW
  have B1 := B0.below hb1
  have hh1 := hh.belowU hb1
  have hF1 := hhF.belowU hb1
  have p1 : w1.cell? ⟨w.heap.size, 1, none⟩ = some (.slice A n c) := B1.cell 1 _ rfl
  clear hh hhF h hF hb1 B0 hW
  go_wp2_with fail
  clear p1
  go_loopw [5] (fun x wq => ∃ k : Nat, k ≤ n ∧ x = .int .i64 k ∧ Below w1.heap.size w1 wq ∧ l.all (rightI n fl) = (l.drop k).all (rightI n fl)) (fun x _ => n - (intOf x).toNat)
  case atStart => exact ⟨0, Nat.zero_le _, rfl, Below.refl _ _, rfl⟩
  case round =>
    obtain ⟨k, hk, rfl, hb, hal⟩ := hrel
    have HAL := Lib.hid hal
    have Br := B1.below hb
    have q0 : wr.cell? ⟨w.heap.size, 0, none⟩ = some (.int .i64 g) := Br.cell 0 _ rfl
    have q1 : wr.cell? ⟨w.heap.size, 1, none⟩ = some (.slice A n c) := Br.cell 1 _ rfl
    have hBr := keep_below hb hW1
    clear hal
    by_cases hge : ¬ k < n
    · have HV := Lib.hid (checkN_ok HL.out HF.out (all_end HAL.out (by rw [HL.out]; omega)))
      go_wp2_with fail
      go_ret
      exact ⟨ret_i HV.out.symm, hBr⟩
    have hlt : k < n := by omega
    clear hge
    obtain ⟨b0, off, x, rfl, hbb, hx, hc⟩ := (hh1.belowU hb).elem insCells_len (by omega) hlt
    have HX := Lib.hid hx
    have hxf := HA.out x (List.mem_of_getElem? hx)
    have HXF := Lib.hid hxf
    obtain ⟨op, a, b, c', kk⟩ := x
    obtain ⟨⟨h1, h2⟩, -, ⟨hb0, hb1⟩, hc0, hc1⟩ := (formedI_iff _).1 hxf
    dsimp only at h1 h2 hb0 hb1 hc0 hc1
    have d0 : wr.cell? ⟨b0, off + k * 5, none⟩ = some (.int .i64 op) := hc 0 _ rfl
    have d1 := hc 1 _ rfl
    have d2 := hc 2 _ rfl
    have d3 := hc 3 _ rfl
    have d4 := hc 4 _ rfl
    dsimp only at d1 d2 d3 d4
    have hk0 : (0 : Int) ≤ (k : Int) := by omega
    have hk1 : (k : Int) < (n : Int) := by omega
    have X := Blk.new wr #[.int .i64 op, .int .i64 a, .int .i64 b, .int .i64 c', .int .u64 (U kk)] 58
    have hBx := keep_alloc hBr (.cells #[.int .i64 op, .int .i64 a, .int .i64 b, .int .i64 c', .int .u64 (U kk)] 58)
    have hbx := keep_alloc hb (.cells #[.int .i64 op, .int .i64 a, .int .i64 b, .int .i64 c', .int .u64 (U kk)] 58)
    have hFr := (hF1.belowU hb).belowU (keep_alloc (Below.refl _ _) (.cells #[.int .i64 op, .int .i64 a, .int .i64 b, .int .i64 c', .int .u64 (U kk)] 58))
    have p0a : (wr.alloc (.cells #[.int .i64 op, .int .i64 a, .int .i64 b, .int .i64 c', .int .u64 (U kk)] 58)).cell? ⟨w.heap.size, 0, none⟩ = some (.int .i64 g) := (Br.alloc _).cell 0 _ rfl
    have p1a : (wr.alloc (.cells #[.int .i64 op, .int .i64 a, .int .i64 b, .int .i64 c', .int .u64 (U kk)] 58)).cell? ⟨w.heap.size, 1, none⟩ = some (.slice (some ⟨b0, off, none⟩) n c) := (Br.alloc _).cell 1 _ rfl
    clear hx hxf hc
    go_wp2_with fail
    have x0 : (wr.alloc (.cells #[.int .i64 op, .int .i64 a, .int .i64 b, .int .i64 c', .int .u64 (U kk)] 58)).cell? ⟨wr.heap.size, 0, none⟩ = some (.int .i64 op) := X.cell 0 _ rfl
    have x1 : (wr.alloc (.cells #[.int .i64 op, .int .i64 a, .int .i64 b, .int .i64 c', .int .u64 (U kk)] 58)).cell? ⟨wr.heap.size, 1, none⟩ = some (.int .i64 a) := X.cell 1 _ rfl
    have x2 : (wr.alloc (.cells #[.int .i64 op, .int .i64 a, .int .i64 b, .int .i64 c', .int .u64 (U kk)] 58)).cell? ⟨wr.heap.size, 2, none⟩ = some (.int .i64 b) := X.cell 2 _ rfl
    have x3 : (wr.alloc (.cells #[.int .i64 op, .int .i64 a, .int .i64 b, .int .i64 c', .int .u64 (U kk)] 58)).cell? ⟨wr.heap.size, 3, none⟩ = some (.int .i64 c') := X.cell 3 _ rfl
    have x4 : (wr.alloc (.cells #[.int .i64 op, .int .i64 a, .int .i64 b, .int .i64 c', .int .u64 (U kk)] 58)).cell? ⟨wr.heap.size, 4, none⟩ = some (.int .u64 (U kk)) := X.cell 4 _ rfl
    clear q0 q1 d0 d1 d2 d3 d4 Br hBr X
    generalize hW2 : wr.alloc (.cells #[.int .i64 op, .int .i64 a, .int .i64 b, .int .i64 c', .int .u64 (U kk)] 58) = wx at *
    clear hW2
    obtain ⟨sb, hs⟩ : ∃ sb, soundI n ⟨op, a, b, c', kk⟩ = sb := ⟨_, rfl⟩
    have HS := Lib.hid hs
    have HC := Lib.hid (show ∀ ca u, callI ⟨op, a, b, c', kk⟩ = ca → upI fl ⟨op, a, b, c', kk⟩ = u → rightI n fl ⟨op, a, b, c', kk⟩ = (sb && (ca && u)) from fun ca u h1 h2 => by unfold rightI; rw [hs, h1, h2])
    clear hs
    cases sb with
    | false =>
      have HV := Lib.hid (checkN_no (g := g) HL.out (all_no HAL.out HX.out (show rightI n fl ⟨op, a, b, c', kk⟩ = false from HC.out _ _ rfl rfl)))
      go_wp2_with fail
      have Lp0a := Lag.cell p0a
      have Lp1a := Lag.cell p1a
      have Lx0 := Lag.cell x0
      have Lx1 := Lag.cell x1
      have Lx2 := Lag.cell x2
      have Lx3 := Lag.cell x3
      have Lx4 := Lag.cell x4
      clear p0a p1a x0 x1 x2 x3 x4
      refine wp_region_lag (by kernel_rfl) (by kernel_rfl) ?_
      repeat (go_big_quiet_step ((go_at_call 34; exact Calls.lag (sound_val g _ n c ⟨op, a, b, c', kk⟩ _ _ hn HXF.out HS.out))))
      refine wpQuiet_nil ?_
      rintro _ ⟨⟨w2, hb2⟩, rfl⟩
      go_wp2_with fail
      go_ret
      exact ⟨ret_i HV.out.symm, keep_below hb2 hBx⟩
    | true =>
      by_cases h13 : op = 13
      · subst h13
        have RS := HC.out _ _ callI_13 (upI_else (by decide))
        by_cases hbr : 1 ≤ b ∧ b ≤ 20
        · rw [decide_eq_true hbr] at RS
          have HRS := Lib.hid RS
          obtain ⟨hb20, hb21⟩ := hbr
          have e1 : decide (b < 1) = false := decide_eq_false (by omega)
          have e2 : decide (20 < b) = false := decide_eq_false (by omega)
          clear RS
          go_wp2_with fail
          have Lp0a := Lag.cell p0a
          have Lp1a := Lag.cell p1a
          have Lx0 := Lag.cell x0
          have Lx1 := Lag.cell x1
          have Lx2 := Lag.cell x2
          have Lx3 := Lag.cell x3
          have Lx4 := Lag.cell x4
          clear p0a p1a x0 x1 x2 x3 x4
          refine wp_region_lag (by kernel_rfl) (by kernel_rfl) ?_
          repeat (go_big_quiet_step ((go_at_call 34; exact Calls.lag (sound_val g _ n c ⟨13, a, b, c', kk⟩ _ _ hn HXF.out HS.out))))
          refine wpQuiet_nil ?_
          rintro _ ⟨⟨w2, hb2⟩, rfl⟩
          go_wp2_with fail
          go_roundw
          case rel => exact ⟨k + 1, by omega, by go_num, keep_below hb2 hbx, all_yes HAL.out HX.out HRS.out⟩
          case measure => simp [intOf]; omega
        · rw [decide_eq_false hbr] at RS
          have HV := Lib.hid (checkN_no (g := g) HL.out (all_no HAL.out HX.out RS))
          clear RS
          by_cases hb20 : b < 1
          · have e1 : decide (b < 1) = true := decide_eq_true hb20
            go_wp2_with fail
            have Lp0a := Lag.cell p0a
            have Lp1a := Lag.cell p1a
            have Lx0 := Lag.cell x0
            have Lx1 := Lag.cell x1
            have Lx2 := Lag.cell x2
            have Lx3 := Lag.cell x3
            have Lx4 := Lag.cell x4
            clear p0a p1a x0 x1 x2 x3 x4
            refine wp_region_lag (by kernel_rfl) (by kernel_rfl) ?_
            repeat (go_big_quiet_step ((go_at_call 34; exact Calls.lag (sound_val g _ n c ⟨13, a, b, c', kk⟩ _ _ hn HXF.out HS.out))))
            refine wpQuiet_nil ?_
            rintro _ ⟨⟨w2, hb2⟩, rfl⟩
            go_wp2_with fail
            go_ret
            exact ⟨ret_i HV.out.symm, keep_below hb2 hBx⟩
          · have e1 : decide (b < 1) = false := decide_eq_false hb20
            have e2 : decide (20 < b) = true := decide_eq_true (by omega)
            go_wp2_with fail
            have Lp0a := Lag.cell p0a
            have Lp1a := Lag.cell p1a
            have Lx0 := Lag.cell x0
            have Lx1 := Lag.cell x1
            have Lx2 := Lag.cell x2
            have Lx3 := Lag.cell x3
            have Lx4 := Lag.cell x4
            clear p0a p1a x0 x1 x2 x3 x4
            refine wp_region_lag (by kernel_rfl) (by kernel_rfl) ?_
            repeat (go_big_quiet_step ((go_at_call 34; exact Calls.lag (sound_val g _ n c ⟨13, a, b, c', kk⟩ _ _ hn HXF.out HS.out))))
            refine wpQuiet_nil ?_
            rintro _ ⟨⟨w2, hb2⟩, rfl⟩
            go_wp2_with fail
            go_ret
            exact ⟨ret_i HV.out.symm, keep_below hb2 hBx⟩
      by_cases h14 : op = 14
      · subst h14
        obtain ⟨bn, rfl⟩ : ∃ bn : Nat, b = bn := ⟨b.toNat, by omega⟩
        have hwc : IntKind.i64.wrap (8 - c') = 8 - c' := IntWalk.i64_in _ (by omega)
        by_cases hbn : bn < nf
        · obtain ⟨bf, offf, p, rfl, hbbf, hp, hcf⟩ := hFr.elem (fun _ => rfl) (by omega) hbn
          have HP := Lib.hid hp
          have f0 := hcf 0 _ rfl
          rw [Nat.mul_one, Nat.add_zero] at f0
          have hi0 : (0 : Int) ≤ (bn : Int) := by omega
          have hi1 : (bn : Int) < (nf : Int) := by omega
          have e1 : decide ((nf : Int) ≤ (bn : Int)) = false := decide_eq_false (by omega)
          have e1n : decide (nf ≤ bn) = false := decide_eq_false (by omega)
          have RS := HC.out _ _ (callI_else (by decide)) (upI_some HP.out)
          clear hcf hp
          by_cases hpc : p ≤ 8 - c'
          · rw [decide_eq_true hpc] at RS
            have HRS := Lib.hid RS
            have e2 : decide (8 - c' < p) = false := decide_eq_false (by omega)
            clear RS hpc
            go_wp2_with fail
            have Lp0a := Lag.cell p0a
            have Lp1a := Lag.cell p1a
            have Lx0 := Lag.cell x0
            have Lx1 := Lag.cell x1
            have Lx2 := Lag.cell x2
            have Lx3 := Lag.cell x3
            have Lx4 := Lag.cell x4
            have Lf0 := Lag.cell f0
            clear p0a p1a x0 x1 x2 x3 x4 f0
            refine wp_region_lag (by kernel_rfl) (by kernel_rfl) ?_
            repeat (go_big_quiet_step ((go_at_call 34; exact Calls.lag (sound_val g _ n c ⟨14, a, bn, c', kk⟩ _ _ hn HXF.out HS.out))))
            refine wpQuiet_nil ?_
            rintro _ ⟨⟨w2, hb2⟩, rfl⟩
            go_wp2_with fail
            go_roundw
            case rel => exact ⟨k + 1, by omega, by go_num, keep_below hb2 hbx, all_yes HAL.out HX.out HRS.out⟩
            case measure => simp [intOf]; omega
          · rw [decide_eq_false hpc] at RS
            have e2 : decide (8 - c' < p) = true := decide_eq_true (by omega)
            have HV := Lib.hid (checkN_no (g := g) HL.out (all_no HAL.out HX.out RS))
            clear RS hpc
            go_wp2_with fail
            have Lp0a := Lag.cell p0a
            have Lp1a := Lag.cell p1a
            have Lx0 := Lag.cell x0
            have Lx1 := Lag.cell x1
            have Lx2 := Lag.cell x2
            have Lx3 := Lag.cell x3
            have Lx4 := Lag.cell x4
            have Lf0 := Lag.cell f0
            clear p0a p1a x0 x1 x2 x3 x4 f0
            refine wp_region_lag (by kernel_rfl) (by kernel_rfl) ?_
            repeat (go_big_quiet_step ((go_at_call 34; exact Calls.lag (sound_val g _ n c ⟨14, a, bn, c', kk⟩ _ _ hn HXF.out HS.out))))
            refine wpQuiet_nil ?_
            rintro _ ⟨⟨w2, hb2⟩, rfl⟩
            go_wp2_with fail
            go_ret
            exact ⟨ret_i HV.out.symm, keep_below hb2 hBx⟩
        · have RS := HC.out _ _ (callI_else (by decide)) (upI_none HFL.out hbn)
          have HV := Lib.hid (checkN_no (g := g) HL.out (all_no HAL.out HX.out RS))
          have e1 : decide ((nf : Int) ≤ (bn : Int)) = true := decide_eq_true (by omega)
          have e1n : decide (nf ≤ bn) = true := decide_eq_true (by omega)
          clear RS
          go_wp2_with fail
          have Lp0a := Lag.cell p0a
          have Lp1a := Lag.cell p1a
          have Lx0 := Lag.cell x0
          have Lx1 := Lag.cell x1
          have Lx2 := Lag.cell x2
          have Lx3 := Lag.cell x3
          have Lx4 := Lag.cell x4
          clear p0a p1a x0 x1 x2 x3 x4
          refine wp_region_lag (by kernel_rfl) (by kernel_rfl) ?_
          repeat (go_big_quiet_step ((go_at_call 34; exact Calls.lag (sound_val g _ n c ⟨14, a, bn, c', kk⟩ _ _ hn HXF.out HS.out))))
          refine wpQuiet_nil ?_
          rintro _ ⟨⟨w2, hb2⟩, rfl⟩
          go_wp2_with fail
          go_ret
          exact ⟨ret_i HV.out.symm, keep_below hb2 hBx⟩
      have HRS := Lib.hid (HC.out _ _ (callI_else h13) (upI_else h14))
      have e13 : (op == 13) = false := by simp [h13]
      have e14 : (op == 14) = false := by simp [h14]
      go_wp2_with fail
      have Lp0a := Lag.cell p0a
      have Lp1a := Lag.cell p1a
      have Lx0 := Lag.cell x0
      have Lx1 := Lag.cell x1
      have Lx2 := Lag.cell x2
      have Lx3 := Lag.cell x3
      have Lx4 := Lag.cell x4
      clear p0a p1a x0 x1 x2 x3 x4
      refine wp_region_lag (by kernel_rfl) (by kernel_rfl) ?_
      repeat (go_big_quiet_step ((go_at_call 34; exact Calls.lag (sound_val g _ n c ⟨op, a, b, c', kk⟩ _ _ hn HXF.out HS.out))))
      refine wpQuiet_nil ?_
      rintro _ ⟨⟨w2, hb2⟩, rfl⟩
      go_wp2_with fail
      go_roundw
      case rel => exact ⟨k + 1, by omega, by go_num, keep_below hb2 hbx, all_yes HAL.out HX.out HRS.out⟩
      case measure => simp [intOf]; omega
end Go.Proofs.Ytpmdgmgcbminaaa

/- The program's Safe. -/
import Derived.Test.YtpmdgmgcbminaaaSafeMap
import Derived.Test.YtpmdgmgcbminaaaNCheck2
namespace Go.Proofs.Ytpmdgmgcbminaaa
open Go.ChangeShapes Go.WideShapes Go.RowKit Go.Maps Words

/-- a world that differs from another in one block and in later ones -/
theorem gb_below {w w1 w2 : World} {b : Nat} (h : w.grownBy w1 (some b)) (hb : Below w1.heap.size w1 w2) : w.grownBy w2 (some b) :=
  h.andThen (row' := none) ⟨hb.os, hb.tape, hb.output, hb.size, fun i hi _ => hb.block i hi⟩ (fun _ e => by cases e)
theorem gb_blk {w w1 : World} {b g : Nat} {t : TypeId} {cs : Array Value} (h : w.grownBy w1 (some b)) (hB : Blk w g t cs) (hne : g ≠ b) : Blk w1 g t cs :=
  (h.block g hB.lt (by simpa using hne)).trans hB

theorem meas_none : ∀ n : Nat, Tbl.meas (fun _ => none) n = 9 * (n + 1)
  | 0 => rfl
  | n + 1 => by
    show Tbl.meas (fun _ => none) n + 9 = 9 * (n + 1 + 1)
    rw [meas_none n]; omega

theorem waysL_len (op : Int) (k : BitVec 64) (i : Nat) : (waysL op k i).length ≤ 2 := by
  unfold waysL
  split
  · simp
  split
  · simp
  split
  · simp
  · simp
theorem after_valv {s t : List Srt} {ok : Bool} (hs : s.length = 8) (x : NI) (hx : formedI x = true) (i : Nat) (h : aft s x i = (t, ok)) (w : World) :
    Calls Try.prog 35 #[.agg (PS s), insV x, .int .i64 i] w fun e w' => e = .returned (.tuple #[.agg (PS t), .bool ok]) ∧ Below w.heap.size w w' := by
  have := after_val hs x hx i w
  rw [h] at this
  exact this
set_option linter.unusedSimpArgs false in
set_option maxRecDepth 100000 in
set_option maxHeartbeats 8000000 in
theorem safe_any (g : Int) (A : Option Addr) (n c : Nat) (l : List NI) (w : World) (h : Reads w w.heap.size 5 A n c (l.flatMap insCells)) :
    Calls Try.prog 24 #[codeV g A n c] w fun e w' => e = .returned (.bool (safeC g l)) ∧ Below w.heap.size w w' := by
  have hlen := h.length insCells_len (by omega)
  have hW := code_alloc w 37 g A n c
  have B0 := Blk.new w #[.int .i64 g, .slice A n c] 37
  have HL := Lib.hid hlen
  have hh := h.belowU hW
  clear hlen
  by_cases hf' : formedC g l = false
  · have HV := Lib.hid (safeC_bad hf')
    go_enter Try.func24, Try.ntmps24
    go_wp2_with fail
    go_step3
    go_wp2_with ((go_at_call 28; refine (formed_any g A n c l _ hh).mono ?_; rw [hf']; rintro e w' ⟨rfl, hb⟩))
    rw [Exit.noGoto_ret]
    go_ret
    exact ⟨ret_nb HV.out.symm, keep_below hb hW⟩
  have hf : formedC g l = true := by simpa using hf'
  clear hf'
  have hn := (formedC_parts hf).2.1
  have hall := (formedC_parts hf).2.2
  have HF := Lib.hid hf
  have HA := Lib.hid hall
  clear hall hf
  have hmm := @run_makeMap Try.prog
  go_enter Try.func24, Try.ntmps24
  go_wp2_with fail
  go_step3
  go_wp2_with fail
  refine (formed_any g A n c l _ hh).mono ?_
  rw [HF.out]
  rintro e w1 ⟨rfl, hb1⟩
  have hW1 := keep_below hb1 hW
  have B1 := B0.below hb1
  have hh1 := hh.belowU hb1
  have p1 : w1.cell? ⟨w.heap.size, 1, none⟩ = some (.slice A n c) := B1.cell 1 _ rfl
  have hlenw : w.heap.size < w1.heap.size := B1.lt
  rw [HL.out] at hn
  clear hh h hb1 B0 hW
  go_wp2_with fail
  clear p1
  go_loopw [23] (fun x wq => ∃ k : Nat, k ≤ n ∧ x = .int .i64 k ∧ Below w1.heap.size w1 wq ∧ l.all (soundI n) = (l.drop k).all (soundI n)) (fun x _ => n - (intOf x).toNat)
  case atStart => exact ⟨0, Nat.zero_le _, rfl, Below.refl _ _, rfl⟩
  case round =>
    obtain ⟨k, hk, rfl, hb, hal⟩ := hrel
    have HAL := Lib.hid hal
    have Br := B1.below hb
    have q0 : wr.cell? ⟨w.heap.size, 0, none⟩ = some (.int .i64 g) := Br.cell 0 _ rfl
    have q1 : wr.cell? ⟨w.heap.size, 1, none⟩ = some (.slice A n c) := Br.cell 1 _ rfl
    have hBr := keep_below hb hW1
    clear hal
    by_cases hlt : k < n
    · obtain ⟨b0, off, x, rfl, hbb, hx, hc⟩ := (hh1.belowU hb).elem insCells_len (by omega) hlt
      have HX := Lib.hid hx
      have hxf := HA.out x (List.mem_of_getElem? hx)
      have HXF := Lib.hid hxf
      obtain ⟨op, a, b, c', kk⟩ := x
      have d0 : wr.cell? ⟨b0, off + k * 5, none⟩ = some (.int .i64 op) := hc 0 _ rfl
      have d1 := hc 1 _ rfl
      have d2 := hc 2 _ rfl
      have d3 := hc 3 _ rfl
      have d4 := hc 4 _ rfl
      dsimp only at d1 d2 d3 d4
      have hk0 : (0 : Int) ≤ (k : Int) := by omega
      have hk1 : (k : Int) < (n : Int) := by omega
      have X := Blk.new wr #[.int .i64 op, .int .i64 a, .int .i64 b, .int .i64 c', .int .u64 (U kk)] 60
      have hBx := keep_alloc hBr (.cells #[.int .i64 op, .int .i64 a, .int .i64 b, .int .i64 c', .int .u64 (U kk)] 60)
      have hbx := keep_alloc hb (.cells #[.int .i64 op, .int .i64 a, .int .i64 b, .int .i64 c', .int .u64 (U kk)] 60)
      have p0a : (wr.alloc (.cells #[.int .i64 op, .int .i64 a, .int .i64 b, .int .i64 c', .int .u64 (U kk)] 60)).cell? ⟨w.heap.size, 0, none⟩ = some (.int .i64 g) := (Br.alloc _).cell 0 _ rfl
      have p1a : (wr.alloc (.cells #[.int .i64 op, .int .i64 a, .int .i64 b, .int .i64 c', .int .u64 (U kk)] 60)).cell? ⟨w.heap.size, 1, none⟩ = some (.slice (some ⟨b0, off, none⟩) n c) := (Br.alloc _).cell 1 _ rfl
      clear hx hxf hc
      go_wp2_with fail
      refine (targets_any g _ n c ⟨op, a, b, c', kk⟩ _ (by omega)).mono ?_
      by_cases ht : targetsI n ⟨op, a, b, c', kk⟩ = false
      · have RN := Lib.hid (show soundI n ⟨op, a, b, c', kk⟩ = false from by unfold soundI; rw [ht]; rfl)
        rw [ht]
        rintro e w2 ⟨rfl, hb2⟩
        have hB2 := keep_below hb2 hBx
        clear ht p0a p1a
        have HV := Lib.hid (safeC_no (g := g) HL.out (all_no HAL.out HX.out RN.out))
        go_wp2_with fail
        (try rw [Exit.noGoto_ret])
        go_ret
        exact ⟨ret_nb HV.out.symm, hB2⟩
      have ht' : targetsI n ⟨op, a, b, c', kk⟩ = true := by simpa using ht
      rw [ht']
      rintro e w2 ⟨rfl, hb2⟩
      have X2 := X.below hb2
      have hB2 := keep_below hb2 hBx
      have hb2w := keep_below hb2 hbx
      have x0 : w2.cell? ⟨wr.heap.size, 0, none⟩ = some (.int .i64 op) := X2.cell 0 _ rfl
      have x1 : w2.cell? ⟨wr.heap.size, 1, none⟩ = some (.int .i64 a) := X2.cell 1 _ rfl
      have x2 : w2.cell? ⟨wr.heap.size, 2, none⟩ = some (.int .i64 b) := X2.cell 2 _ rfl
      have x3 : w2.cell? ⟨wr.heap.size, 3, none⟩ = some (.int .i64 c') := X2.cell 3 _ rfl
      have x4 : w2.cell? ⟨wr.heap.size, 4, none⟩ = some (.int .u64 (U kk)) := X2.cell 4 _ rfl
      have HT := Lib.hid ht'
      clear ht ht' p0a p1a X X2 hBx hbx
      go_wp2_with fail
      refine (registers_any ⟨op, a, b, c', kk⟩ _ HXF.out).mono ?_
      cases hr : regsI ⟨op, a, b, c', kk⟩ with
      | false =>
        have RN := Lib.hid (show soundI n ⟨op, a, b, c', kk⟩ = false from by unfold soundI; rw [hr]; simp)
        rintro e w3 ⟨rfl, hb3⟩
        have HV := Lib.hid (safeC_no (g := g) HL.out (all_no HAL.out HX.out RN.out))
        have hB3 := keep_below hb3 hB2
        clear hr x0 x1 x2 x3 x4
        go_wp2_with fail
        (try rw [Exit.noGoto_ret])
        go_ret
        exact ⟨ret_nb HV.out.symm, hB3⟩
      | true =>
        have RN := Lib.hid (show soundI n ⟨op, a, b, c', kk⟩ = true from by unfold soundI; rw [HT.out, hr]; rfl)
        rintro e w3 ⟨rfl, hb3⟩
        have hb3w := keep_below hb3 hb2w
        clear hr x0 x1 x2 x3 x4
        go_wp2_with fail
        go_roundw
        case rel => exact ⟨k + 1, by omega, by go_num, hb3w, all_yes HAL.out HX.out RN.out⟩
        case measure => simp [intOf]; omega
    have hkn : k = n := by omega
    subst hkn
    have HS := Lib.hid (all_end HAL.out (by rw [HL.out]; omega))
    have hhr := hh1.belowU hb
    clear hb hh1 hW1 B1 HAL hk hlt hlenw
    go_wp2_with (refine wpList_tins rfl rfl rfl (OwnsT.made wr) (by unfold maxLen; omega) (j := 0) rfl (by omega) (s := sort0) rfl ?_; intro w4 hown4 hg4)
    have hb4 : Below wr.heap.size wr w4 := (keep_alloc (Below.refl _ _) _).grown hg4 (by simp) (fun q hq => by cases hq; exact Nat.le_refl _)
    have hR2 : ∀ wq, w4.grownBy wq (some wr.heap.size) → Reads wq wq.heap.size 5 A k c (l.flatMap insCells) ∧ Below w.heap.size w wq := fun wq hg => by
      have hb := hb4.grown hg hb4.size (fun q hq => by cases hq; exact Nat.le_refl _)
      exact ⟨hhr.belowU hb, keep_below hb hBr⟩
    obtain ⟨bm, hbm⟩ : ∃ bm, wr.heap.size = bm := ⟨_, rfl⟩
    have hwb : w.heap.size < bm := by rw [← hbm]; exact Br.lt
    have B4 := gb_blk hg4 (Br.alloc _) (by omega)
    rw [hbm] at hown4 hR2 ⊢
    have HR2 := Lib.hid hR2
    have HM0 := Lib.hid (show (Tbl.put (fun _ => none) 0 sort0).meas k < 9 * (k + 1) from meas_none k ▸ Tbl.meas_new _ rfl rfl (Nat.zero_le _))
    clear hg4 q0 q1 hmm hbm Br hb4 hhr hBr hR2
    go_step3
    go_wp2_with fail
    go_loopg [] ((Tbl.put (fun _ => none) 0 sort0).meas k) (fun G wq => ∃ (tb : Tbl) (cnt : Nat), Aside (SInv l k tb ∧ tb.meas k ≤ G ∧ cnt + tb.meas k ≤ 9 * (k + 1)) ∧ OwnsT wq bm tb cnt ∧ w4.grownBy wq (some bm))
    case atStart => exact ⟨_, 1, ⟨SInv.start l k, Nat.le_refl _, by have := HM0.out; omega⟩, hown4, ⟨rfl, rfl, rfl, Nat.le_refl _, fun _ _ _ => rfl⟩⟩
    case round =>
      obtain ⟨tb, cnt, HI, hown, hgr⟩ := hrel
      have Br := gb_blk hgr B4 (by omega)
      have q1 : wr.cell? ⟨w.heap.size, 1, none⟩ = some (.slice A k c) := Br.cell 1 _ rfl
      clear hown4 HM0
      go_wp2_with fail
      clear q1
      go_loopg [43] k (fun G3 s43 wq => ∃ i : Nat, i + G3 = k ∧ s43 = .int .i64 i ∧ Aside (∀ j, j < i → Stab l tb j) ∧ OwnsT wq bm tb cnt ∧ w4.grownBy wq (some bm))
      case atStart => exact ⟨0, by omega, rfl, (fun j hj => by omega), hown, hgr⟩
      case round =>
        clear hown hgr Br
        obtain ⟨i, hik, rfl, HST, hown, hgr⟩ := hrel
        cases gk with
        | zero =>
          have hki : decide ((i : Int) < (k : Int)) = false := decide_eq_false (by omega)
          have hki2 : decide (i < k) = false := decide_eq_false (by omega)
          have HV := Lib.hid (safeC_yes HF.out HL.out HS.out (HI.out.1.closed HL.out (fun j hj => HST.out j (by omega))))
          have HB := Lib.hid (HR2.out _ hgr).2
          clear hik
          go_wp2_with fail
          (try rw [Exit.noGoto_ret])
          go_ret
          exact ⟨ret_nb HV.out.symm, HB.out⟩
        | succ g3 =>
          have hlt : i < k := by omega
          obtain ⟨b0, off, x, rfl, hbb, hx, hc⟩ := (HR2.out _ hgr).1.elem insCells_len (by omega) hlt
          have HX := Lib.hid hx
          have hxf := HA.out x (List.mem_of_getElem? hx)
          have HXF := Lib.hid hxf
          have HXS := Lib.hid (List.all_eq_true.1 HS.out x (List.mem_of_getElem? hx))
          have HIK := Lib.hid hik
          obtain ⟨op, a, b, c', kk⟩ := x
          have d0 : wr.cell? ⟨b0, off + i * 5, none⟩ = some (.int .i64 op) := hc 0 _ rfl
          have d1 := hc 1 _ rfl
          have d2 := hc 2 _ rfl
          have d3 := hc 3 _ rfl
          have d4 := hc 4 _ rfl
          dsimp only at d1 d2 d3 d4
          have hk0 : (0 : Int) ≤ (i : Int) := by omega
          have hk1 : (i : Int) < (k : Int) := by omega
          have hk2 : decide ((i : Int) < (k : Int)) = true := decide_eq_true hk1
          have hk3 : decide (i < k) = true := decide_eq_true hlt
          have B8 := Blk.newAt (wr.alloc (.cells #[.int .i64 op, .int .i64 a, .int .i64 b, .int .i64 c', .int .u64 (U kk)] 60)) #[.int .i64 0, .int .i64 0, .int .i64 0, .int .i64 0, .int .i64 0, .int .i64 0, .int .i64 0, .int .i64 0, .int .i64 0, .int .i64 0, .int .i64 0, .int .i64 0, .int .i64 0, .int .i64 0, .int .i64 0, .int .i64 0] 78 (wr.heap.size + 1) (by simp)
          have B7 := ((Blk.new wr #[.int .i64 op, .int .i64 a, .int .i64 b, .int .i64 c', .int .u64 (U kk)] 60).alloc (.cells #[.int .i64 0, .int .i64 0, .int .i64 0, .int .i64 0, .int .i64 0, .int .i64 0, .int .i64 0, .int .i64 0, .int .i64 0, .int .i64 0, .int .i64 0, .int .i64 0, .int .i64 0, .int .i64 0, .int .i64 0, .int .i64 0] 78))
          have hB8 := keep_alloc (keep_alloc (Below.refl wr.heap.size wr) (.cells #[.int .i64 op, .int .i64 a, .int .i64 b, .int .i64 c', .int .u64 (U kk)] 60)) (.cells #[.int .i64 0, .int .i64 0, .int .i64 0, .int .i64 0, .int .i64 0, .int .i64 0, .int .i64 0, .int .i64 0, .int .i64 0, .int .i64 0, .int .i64 0, .int .i64 0, .int .i64 0, .int .i64 0, .int .i64 0, .int .i64 0] 78)
          clear hx hxf hc hik
          cases htb : tb i with
          | none =>
            have HN := Lib.hid (Stab.none (l := l) htb)
            clear B7
            go_wp2_with (first | (refine wpList_look rfl rfl rfl (hown.alloc _) htb rfl (by omega) ?_) | (refine stP rfl rfl rfl rfl B8 rfl rfl ?_))
            go_roundg g3
            case measure => omega
            case rel => exact ⟨i + 1, by have := HIK.out; omega, by go_num, (fun j hj => if e : j < i then HST.out j e else (show j = i by omega) ▸ HN.out), hown.below (keep_row hB8 (by omega) _), gb_below hgr (keep_row hB8 (by omega) _)⟩
          | some s =>
            have hsl := (HI.out.1.len i s htb).1
            have B8' := B8.row (PS s)
            have B7' := B7.rowFar (g := wr.heap.size + 1) (by omega) (PS s)
            have hB8' := keep_row hB8 (show wr.heap.size ≤ wr.heap.size + 1 by omega) (PS s)
            go_upto_region 15 with (first | (refine wpList_look rfl rfl rfl (hown.alloc _) htb rfl (by omega) ?_) | (refine stP rfl rfl rfl rfl B8 rfl hsl ?_))
            obtain ⟨w6, hw6⟩ : ∃ w6, ((wr.alloc (.cells #[.int .i64 op, .int .i64 a, .int .i64 b, .int .i64 c', .int .u64 (U kk)] 60)).alloc (.cells #[.int .i64 0, .int .i64 0, .int .i64 0, .int .i64 0, .int .i64 0, .int .i64 0, .int .i64 0, .int .i64 0, .int .i64 0, .int .i64 0, .int .i64 0, .int .i64 0, .int .i64 0, .int .i64 0, .int .i64 0, .int .i64 0] 78)).setRow (wr.heap.size + 1) (PS s) = w6 := ⟨_, rfl⟩
            rw [hw6] at B8' B7' hB8' ⊢
            have hown6 := hown.below hB8'
            have hgr6 := gb_below hgr hB8'
            obtain ⟨h7, hh7⟩ : ∃ h7, wr.heap.size = h7 := ⟨_, rfl⟩
            rw [hh7] at B7' B8' ⊢
            obtain ⟨t, ok, hao⟩ : ∃ t ok, aft s ⟨op, a, b, c', kk⟩ i = (t, ok) := ⟨_, _, rfl⟩
            have htl : t.length = 8 := by have := aft_len hsl ⟨op, a, b, c', kk⟩ i; rw [hao] at this; exact this
            have HTB := Lib.hid htb
            have HAO := Lib.hid hao
            have j0 := B7'.cell 0 _ rfl
            have j1 := B7'.cell 1 _ rfl
            have j2 := B7'.cell 2 _ rfl
            have j3 := B7'.cell 3 _ rfl
            have j4 := B7'.cell 4 _ rfl
            clear hao htb d0 d1 d2 d3 d4 hw6 hh7 hown hgr hB8 B8 B7 hB8' hbb
            go_upto_region 16 with (first | (refine ldP rfl rfl rfl B8' hsl ?_) | (go_at_call 35; refine (after_valv hsl ⟨op, a, b, c', kk⟩ HXF.out i HAO.out _).mono ?_; rintro e w7 ⟨rfl, hb7⟩; have B10 := Blk.new w7 #[.int .i64 0, .int .i64 0, .int .i64 0, .int .i64 0, .int .i64 0, .int .i64 0, .int .i64 0, .int .i64 0, .int .i64 0, .int .i64 0, .int .i64 0, .int .i64 0, .int .i64 0, .int .i64 0, .int .i64 0, .int .i64 0] 78) | (refine stP rfl rfl rfl rfl B10 rfl htl ?_))
            cases ok with
            | false =>
              have HV := Lib.hid (safeC_uns (g := g) (HI.out.1.bad HXF.out HX.out HTB.out (by rw [HAO.out])))
              have HB := Lib.hid (keep_row (keep_alloc (keep_below hb7 (HR2.out _ hgr6).2) (.cells #[.int .i64 0, .int .i64 0, .int .i64 0, .int .i64 0, .int .i64 0, .int .i64 0, .int .i64 0, .int .i64 0, .int .i64 0, .int .i64 0, .int .i64 0, .int .i64 0, .int .i64 0, .int .i64 0, .int .i64 0, .int .i64 0] 78)) (show w.heap.size ≤ w7.heap.size by have := hb7.size; have := hown6.lt; omega) (PS t))
              clear j0 j1 j2 j3 j4 B7' B8'
              go_wp2_with fail
              (try rw [Exit.noGoto_ret])
              go_ret
              exact ⟨ret_nb HV.out.symm, HB.out⟩
            | true =>
              have B10' := B10.row (PS t)
              have hb10 := keep_row (keep_alloc hb7 (.cells #[.int .i64 0, .int .i64 0, .int .i64 0, .int .i64 0, .int .i64 0, .int .i64 0, .int .i64 0, .int .i64 0, .int .i64 0, .int .i64 0, .int .i64 0, .int .i64 0, .int .i64 0, .int .i64 0, .int .i64 0, .int .i64 0] 78)) (show w6.heap.size ≤ w7.heap.size from hb7.size) (PS t)
              have B7a := B7'.below hb10
              have hown7 := hown6.below hb10
              have hgr7 := gb_below hgr6 hb10
              have hkU : op = 9 ∨ op = 10 → U kk ≤ 1000 := by
                intro h
                have h2 := HXS.out
                unfold soundI targetsI jumps at h2
                simp [h] at h2
                omega
              obtain ⟨h10, hh10⟩ : ∃ h10, w7.heap.size = h10 := ⟨_, rfl⟩
              obtain ⟨w8, hw8⟩ : ∃ w8, (w7.alloc (.cells #[.int .i64 0, .int .i64 0, .int .i64 0, .int .i64 0, .int .i64 0, .int .i64 0, .int .i64 0, .int .i64 0, .int .i64 0, .int .i64 0, .int .i64 0, .int .i64 0, .int .i64 0, .int .i64 0, .int .i64 0, .int .i64 0] 78)).setRow w7.heap.size (PS t) = w8 := ⟨_, rfl⟩
              rw [hw8] at B7a B10' hown7 hgr7 ⊢
              rw [hh10] at B10' ⊢
              have o0 := B7a.cell 0 _ rfl
              have o1 := B7a.cell 1 _ rfl
              have o2 := B7a.cell 2 _ rfl
              have o3 := B7a.cell 3 _ rfl
              have o4 := B7a.cell 4 _ rfl
              clear j0 j1 j2 j3 j4 B7' B8' B10 hb7 hb10 hw8 hh10 hown6 hgr6
              go_wp2_with ((go_at_call 36; refine (nextp_any op a b c' kk i (by omega) hkU _).mono ?_; rintro e w9 ⟨A2, c2, rfl, hR, hb9⟩))
              have HK := Lib.hid (fun v (hv : v ∈ waysL op kk i) => ways_nat (x := ⟨op, a, b, c', kk⟩) (n := k) (by have := HXS.out; unfold soundI at this; rw [Bool.and_eq_true] at this; exact this.1) hlt hv)
              obtain ⟨L, hL⟩ : ∃ L, waysL op kk i = L := ⟨_, rfl⟩
              rw [hL] at hR HK ⊢
              have HLL := Lib.hid hL
              obtain ⟨m, hm⟩ : ∃ m, L.length = m := ⟨_, rfl⟩
              have hm2 : m ≤ 2 := by rw [← hm, ← hL]; exact waysL_len _ _ _
              rw [hm] at hR ⊢
              have HM := Lib.hid hm
              have hown9 := hown7.below hb9
              have hgr9 := gb_below hgr7 hb9
              have B10n := B10'.below hb9
              clear o0 o1 o2 o3 o4 B7a hb9 hown7 hgr7 B10' hL hm hkU
              go_loopg [69] m (fun G4 s69 wq => ∃ p : Nat, p + G4 = m ∧ s69 = .int .i64 p ∧ Aside (∀ (q k' : Nat), q < p → L[q]? = some (k' : Int) → ∃ u, tb k' = some u ∧ joinR u t = u) ∧ Below w9.heap.size w9 wq)
              case atStart => exact ⟨0, by omega, rfl, (fun q k' hq => by omega), Below.refl _ _⟩
              case round =>
                obtain ⟨p, hpm, rfl, HQ, hb⟩ := hrel
                have HPM := Lib.hid hpm
                cases gk with
                | zero =>
                  have hp1 : decide ((p : Int) < (m : Int)) = false := decide_eq_false (by omega)
                  have hp2 : decide (p < m) = false := decide_eq_false (by omega)
                  clear hpm
                  go_wp2_with fail
                  go_roundg g3
                  case measure => omega
                  case rel =>
                    refine ⟨i + 1, by have := HIK.out; omega, by go_num, (fun j hj => if e : j < i then HST.out j e else (show j = i by omega) ▸ ?_), hown9.below hb, gb_below hgr9 hb⟩
                    intro x s' hx hs'
                    obtain rfl : _ = x := Option.some.inj (HX.out.symm.trans hx)
                    obtain rfl : s = s' := Option.some.inj (HTB.out.symm.trans hs')
                    rw [HAO.out]
                    refine ⟨rfl, fun k' hk' => ?_⟩
                    rw [show waysL op kk i = L from HLL.out] at hk'
                    obtain ⟨q, hq⟩ := List.getElem?_of_mem hk'
                    exact HQ.out q k' (by have := (List.getElem?_eq_some_iff.1 hq).1; have := HM.out; have := HPM.out; omega) hq
                | succ g4 =>
                  have hplt : p < m := by omega
                  obtain ⟨b2, off2, v, rfl, hbb2, hv, hcv⟩ := (hR.belowU hb).elem (f := intCells) (fun _ => rfl) (by omega) hplt
                  have f0 := hcv 0 _ rfl
                  rw [Nat.mul_one, Nat.add_zero] at f0
                  obtain ⟨k', rfl, hk'k⟩ := HK.out v (List.mem_of_getElem? hv)
                  have HV := Lib.hid hv
                  have HKM := Lib.hid (List.mem_of_getElem? hv)
                  have hp0 : (0 : Int) ≤ (p : Int) := by omega
                  have hp1 : (p : Int) < (m : Int) := by omega
                  have hp2 : decide ((p : Int) < (m : Int)) = true := decide_eq_true hp1
                  have hp3 : decide (p < m) = true := decide_eq_true hplt
                  have hown := hown9.below hb
                  have hgr := gb_below hgr9 hb
                  have B10 := B10n.below hb
                  have B14 := Blk.new wr #[.int .i64 0, .int .i64 0, .int .i64 0, .int .i64 0, .int .i64 0, .int .i64 0, .int .i64 0, .int .i64 0, .int .i64 0, .int .i64 0, .int .i64 0, .int .i64 0, .int .i64 0, .int .i64 0, .int .i64 0, .int .i64 0] 78
                  have hbk : b2 < wr.heap.size := hbb2
                  clear hv hcv hpm
                  have hway : (k' : Int) ∈ waysL (⟨op, a, b, c', kk⟩ : NI).op (⟨op, a, b, c', kk⟩ : NI).k i := by show (k' : Int) ∈ waysL op kk i; rw [HLL.out]; exact HKM.out
                  have HWAY := Lib.hid hway
                  have hcnt : cnt < maxLen := by have := HI.out.2.2; unfold maxLen; omega
                  clear hway
                  cases htk : tb k' with
                  | none =>
                    have hbz := keep_row (keep_alloc (Below.refl wr.heap.size wr) (.cells #[.int .i64 0, .int .i64 0, .int .i64 0, .int .i64 0, .int .i64 0, .int .i64 0, .int .i64 0, .int .i64 0, .int .i64 0, .int .i64 0, .int .i64 0, .int .i64 0, .int .i64 0, .int .i64 0, .int .i64 0, .int .i64 0] 78)) (Nat.le_refl wr.heap.size) (PS sort0)
                    have hownz := hown.below hbz
                    have hgrz := gb_below hgr hbz
                    have B10z := B10.below hbz
                    have HTK := Lib.hid htk
                    go_upto_region 23 with (first | (refine wpList_look rfl rfl rfl hown htk rfl (by omega) ?_) | (refine stP rfl rfl rfl rfl B14 rfl rfl ?_))
                    obtain ⟨wa, hwa⟩ : ∃ wa, (wr.alloc (.cells #[.int .i64 0, .int .i64 0, .int .i64 0, .int .i64 0, .int .i64 0, .int .i64 0, .int .i64 0, .int .i64 0, .int .i64 0, .int .i64 0, .int .i64 0, .int .i64 0, .int .i64 0, .int .i64 0, .int .i64 0, .int .i64 0] 78)).setRow wr.heap.size (PS sort0) = wa := ⟨_, rfl⟩
                    rw [hwa] at hownz hgrz B10z ⊢
                    clear hbz hown hgr B10 B14 htk hwa f0 hbb2 hbk
                    go_wp2_with (first | (refine ldP rfl rfl rfl B10z htl ?_) | (refine wpList_tput rfl rfl rfl hownz hcnt rfl (by omega) rfl ?_; intro wz hz1 hz2))
                    go_roundg ((tb.put k' t).meas k)
                    case measure => have := tb.meas_new HTK.out htl hk'k; have := HI.out.2.1; omega
                    case rel =>
                      have hnew := HI.out.1.new HXF.out HX.out HTB.out HWAY.out HTK.out hk'k
                      rw [HAO.out] at hnew
                      exact ⟨tb.put k' t, cnt + 1, ⟨hnew, Nat.le_refl _, by have := tb.meas_new HTK.out htl hk'k; have := HI.out.2.2; omega⟩, hz1, hgrz.andThen (row' := some bm) hz2 (fun _ e => Or.inr e)⟩
                  | some u =>
                    have hul := (HI.out.1.len k' u htk).1
                    have hbz := keep_row (keep_alloc (Below.refl wr.heap.size wr) (.cells #[.int .i64 0, .int .i64 0, .int .i64 0, .int .i64 0, .int .i64 0, .int .i64 0, .int .i64 0, .int .i64 0, .int .i64 0, .int .i64 0, .int .i64 0, .int .i64 0, .int .i64 0, .int .i64 0, .int .i64 0, .int .i64 0] 78)) (Nat.le_refl wr.heap.size) (PS u)
                    have hownz := hown.below hbz
                    have hgrz := gb_below hgr hbz
                    have B10z := B10.below hbz
                    have B14z := B14.row (PS u)
                    have hb9z := keep_below hbz hb
                    have HTK := Lib.hid htk
                    go_upto_region 24 with (first | (refine wpList_look rfl rfl rfl hown htk rfl (by omega) ?_) | (refine stP rfl rfl rfl rfl B14 rfl hul ?_))
                    obtain ⟨wa, hwa⟩ : ∃ wa, (wr.alloc (.cells #[.int .i64 0, .int .i64 0, .int .i64 0, .int .i64 0, .int .i64 0, .int .i64 0, .int .i64 0, .int .i64 0, .int .i64 0, .int .i64 0, .int .i64 0, .int .i64 0, .int .i64 0, .int .i64 0, .int .i64 0, .int .i64 0] 78)).setRow wr.heap.size (PS u) = wa := ⟨_, rfl⟩
                    obtain ⟨h14, hh14⟩ : ∃ h14, wr.heap.size = h14 := ⟨_, rfl⟩
                    rw [hwa] at hownz hgrz B10z B14z hb9z ⊢
                    rw [hh14] at B14z ⊢
                    clear hbz hown hgr B10 B14 htk hwa f0 hbb2 hbk hh14 hb
                    have hjl : (joinR u t).length = 8 := by rw [joinR_len]; exact hul
                    go_upto_region 25 with (first | (refine ldP rfl rfl rfl B10z htl ?_) | (refine ldP rfl rfl rfl B14z hul ?_) | (go_at_call 37; refine (joined_any u t hul htl _).mono ?_; rintro e wb ⟨rfl, hbb⟩; have B16 := Blk.new wb #[.int .i64 0, .int .i64 0, .int .i64 0, .int .i64 0, .int .i64 0, .int .i64 0, .int .i64 0, .int .i64 0, .int .i64 0, .int .i64 0, .int .i64 0, .int .i64 0, .int .i64 0, .int .i64 0, .int .i64 0, .int .i64 0] 78) | (refine stP rfl rfl rfl rfl B16 rfl hjl ?_))
                    have B16z := B16.row (PS (joinR u t))
                    have hbc := keep_row (keep_alloc hbb (.cells #[.int .i64 0, .int .i64 0, .int .i64 0, .int .i64 0, .int .i64 0, .int .i64 0, .int .i64 0, .int .i64 0, .int .i64 0, .int .i64 0, .int .i64 0, .int .i64 0, .int .i64 0, .int .i64 0, .int .i64 0, .int .i64 0] 78)) (show wa.heap.size ≤ wb.heap.size from hbb.size) (PS (joinR u t))
                    have hownc := hownz.below hbc
                    have hgrc := gb_below hgrz hbc
                    have B14c := B14z.below hbc
                    have hb9c := keep_below hbc hb9z
                    obtain ⟨wc, hwc⟩ : ∃ wc, (wb.alloc (.cells #[.int .i64 0, .int .i64 0, .int .i64 0, .int .i64 0, .int .i64 0, .int .i64 0, .int .i64 0, .int .i64 0, .int .i64 0, .int .i64 0, .int .i64 0, .int .i64 0, .int .i64 0, .int .i64 0, .int .i64 0, .int .i64 0] 78)).setRow wb.heap.size (PS (joinR u t)) = wc := ⟨_, rfl⟩
                    obtain ⟨h16, hh16⟩ : ∃ h16, wb.heap.size = h16 := ⟨_, rfl⟩
                    rw [hwc] at hownc hgrc B14c B16z hb9c ⊢
                    rw [hh16] at B16z ⊢
                    clear hbc hownz hgrz B10z B14z B16 hwc hh16 hb9z hbb
                    have heq : ∀ w', (Op.equalIn 10000 78 (.agg (PS (joinR u t))) (.agg (PS u))).run Try.prog w' = .ok (decide (joinR u t = u)) w' := fun w' => sorts_eq _ _ hjl hul w'
                    obtain ⟨e, he⟩ : ∃ e, decide (joinR u t = u) = e := ⟨_, rfl⟩
                    rw [he] at heq
                    have HE := Lib.hid he
                    clear he
                    cases e with
                    | true =>
                      go_wp2_with (first | (refine ldP rfl rfl rfl B16z hjl ?_) | (refine ldP rfl rfl rfl B14c hul ?_))
                      go_roundg g4
                      case measure => omega
                      case rel =>
                        refine ⟨p + 1, by have := HPM.out; omega, by go_num, fun q k2 hq hk2 => ?_, hb9c⟩
                        by_cases e : q < p
                        · exact HQ.out q k2 e hk2
                        · obtain rfl : q = p := by omega
                          obtain rfl : k2 = k' := by have := Option.some.inj (hk2.symm.trans HV.out); omega
                          exact ⟨u, HTK.out, of_decide_eq_true HE.out⟩
                    | false =>
                      have hne := Lib.hid (of_decide_eq_false HE.out)
                      go_wp2_with (first | (refine ldP rfl rfl rfl B16z hjl ?_) | (refine ldP rfl rfl rfl B14c hul ?_) | (refine wpList_tput rfl rfl rfl hownc hcnt rfl (by omega) rfl ?_; intro wz hz1 hz2))
                      go_roundg ((tb.put k' (joinR u t)).meas k)
                      case measure => have := tb.meas_join HTK.out hul htl hne.out hk'k; have := HI.out.2.1; omega
                      case rel =>
                        have hnew := HI.out.1.join HXF.out HX.out HTB.out HWAY.out HTK.out
                        rw [HAO.out] at hnew
                        exact ⟨tb.put k' (joinR u t), cnt + 1, ⟨hnew, Nat.le_refl _, by have := tb.meas_join HTK.out hul htl hne.out hk'k; have := HI.out.2.2; omega⟩, hz1, hgrc.andThen (row' := some bm) hz2 (fun _ e => Or.inr e)⟩
end Go.Proofs.Ytpmdgmgcbminaaa

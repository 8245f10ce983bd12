/- The contracts of the reference's Pop, Leave, Enter and Push. Printed by mk_scope25.py. -/
import Derived.Test.YtmcdhpbkhchpeaaScope24
import Derived.Test.YtmcdhpbkhchpeaaScope23
import Derived.Test.YtmcdhpbkhchpeaaScope13
namespace Go.Proofs.Ytmcdhpbkhchpeaa
open Go.ChangeShapes Go.WideShapes Go.RowKit Words

set_option linter.unusedSimpArgs false in
set_option maxRecDepth 100000 in
set_option maxHeartbeats 4000000 in
theorem rpop_any (As : Option Addr) (ns cs : Nat) (Ap : Option Addr) (np cp : Nat) (Ai : Option Addr) (ni ci : Nat) (S : List Sl) (P : List Sc) (I : List Int) (w : World) (h : LRd w As ns cs Ap np cp Ai ni ci S P I)
    (hs : ns ≤ 1000000) (hp : np ≤ 1000000) :
    Calls Try.prog 24 #[locV As ns cs Ap np cp Ai ni ci] w (RetLR w (popL ⟨S, P, I⟩)) := by
  obtain ⟨hS, hP, hI⟩ := h.lens
  have hB : Below w.heap.size w ((w.alloc (.cells #[.slice As ns cs, .slice Ap np cp, .slice Ai ni ci] 26)).alloc (.cells #[.slice none 0 0, .slice none 0 0, .slice none 0 0] 26)) := keep_alloc (loc_alloc w _ _ _ _) _
  have B0 := (Blk.new w #[.slice As ns cs, .slice Ap np cp, .slice Ai ni ci] 26).alloc (.cells #[.slice none 0 0, .slice none 0 0, .slice none 0 0] 26)
  have R0 := Blk.newAt (w.alloc (.cells #[.slice As ns cs, .slice Ap np cp, .slice Ai ni ci] 26)) #[.slice none 0 0, .slice none 0 0, .slice none 0 0] 26 (w.heap.size + 1) (by simp)
  have hh := h.belowU hB
  have hsz : ((w.alloc (.cells #[.slice As ns cs, .slice Ap np cp, .slice Ai ni ci] 26)).alloc (.cells #[.slice none 0 0, .slice none 0 0, .slice none 0 0] 26)).heap.size = w.heap.size + 2 := by simp
  have HSZ := Lib.hid hsz
  have HHS := Lib.hid hs
  have HHP := Lib.hid hp
  obtain ⟨vb, hvb⟩ : ∃ vb, validL S P I = vb := ⟨_, rfl⟩
  have HVB := Lib.hid hvb
  have HS := Lib.hid hS
  have HP := Lib.hid hP
  have HI := Lib.hid hI
  have b1 := B0.cell 1 _ rfl
  have hwp : ∃ z : Int, IntKind.i64.wrap ((np : Int) - 1) = z ∧ z = (np : Int) - 1 := ⟨_, rfl, IntWalk.i64_in _ (by omega)⟩
  obtain ⟨z, hz, hzz⟩ := hwp
  clear h hsz hs hp hvb hS hP hI
  cases vb with
  | false =>
    have HR := Lib.hid (popL_arg (x := ⟨S, P, I⟩) HVB.out)
    go_enter Try.func24, Try.ntmps24
    go_wp2_with fail
    refine (rvalid_any As ns cs Ap np cp Ai ni ci S P I _ hh).mono ?_
    rw [HVB.out]
    rintro e w1 ⟨rfl, hb1⟩
    have R1 := R0.below hb1
    have fr := R1.free
    have r0 := R1.cell 0 _ rfl
    have r1 := R1.cell 1 _ rfl
    have r2 := R1.cell 2 _ rfl
    have G := R1.put3 (.slice none 0 0) (.slice none 0 0) (.slice none 0 0)
    have g20 := G.cell 0 _ rfl
    have g21 := G.cell 1 _ rfl
    have g22 := G.cell 2 _ rfl
    have hB1 := keep_below hb1 hB
    clear R1 G hb1 hB B0 R0 hh
    go_wp2_with fail
    refine bodyPost_ret (v := .tuple #[locV none 0 0 none 0 0 none 0 0, .int .i64 1]) (by simp [results, Try.results24, go_sem, g20, g21, g22]) rfl ?_
    rw [HR.out]
    exact RetLR.fail hB1
  | true =>
    have HVT := Lib.hid (show (⟨S, P, I⟩ : Lc).valid = true from HVB.out)
    go_enter Try.func24, Try.ntmps24
    go_wp2_with fail
    refine (rvalid_any As ns cs Ap np cp Ai ni ci S P I _ hh).mono ?_
    rw [HVB.out]
    rintro e w1 ⟨rfl, hb1⟩
    have B1 := B0.below hb1
    have R1 := R0.below hb1
    have hh1 := hh.belowU hb1
    have hB1 := keep_below hb1 hB
    have hs1 : w.heap.size + 2 ≤ w1.heap.size := by have := HSZ.out; have := hb1.size; omega
    have HS1 := Lib.hid hs1
    have fr := R1.free
    have r0 := R1.cell 0 _ rfl
    have r1 := R1.cell 1 _ rfl
    have r2 := R1.cell 2 _ rfl
    have G := R1.put3 (.slice none 0 0) (.slice none 0 0) (.slice none 0 0)
    have g20 := G.cell 0 _ rfl
    have g21 := G.cell 1 _ rfl
    have g22 := G.cell 2 _ rfl
    clear b1
    have b0 := B1.cell 0 _ rfl
    have b1 := B1.cell 1 _ rfl
    have b2 := B1.cell 2 _ rfl
    have HR1 := Lib.hid R1
    clear B0 R0 hh hB hb1 G B1 R1 hs1
    by_cases hn : np = 0
    · have HR := Lib.hid (popL_none HVT.out (by dsimp only; rw [HP.out, hn]; exact List.getElem?_eq_none (by rw [HP.out]; omega)))
      subst hn
      obtain rfl : z = -1 := by omega
      clear hzz hz
      go_wp2_with fail
      refine bodyPost_ret (v := .tuple #[locV none 0 0 none 0 0 none 0 0, .int .i64 9]) (by simp [results, Try.results24, go_sem, g20, g21, g22]) rfl ?_
      rw [HR.out]
      exact RetLR.fail hB1
    · obtain ⟨m, rfl⟩ : ∃ m, np = m + 1 := ⟨np - 1, by omega⟩
      obtain rfl : z = (m : Int) := by omega
      have e1 : (((m + 1 : Nat) : Int) == 0) = false := beq_false_of_ne (by omega)
      have e1' : ((m : Int) + 1 == 0) = false := beq_false_of_ne (by omega)
      have hmb : m + 1 ≤ 1000000 := HHP.out
      have e2' : IntKind.i64.wrap ((m : Int) + 1 - 1) = (m : Int) := by rw [IntWalk.i64_in _ (by omega)]; omega
      have e3' : IntKind.i64.wrap (m : Int) = (m : Int) := IntWalk.i64_in _ (by omega)
      clear hmb
      obtain ⟨b, off, q, rfl, hbb, hq, hc⟩ := hh1.p.elem scCells_len (by omega) (show m < m + 1 by omega)
      have c2 := hc 2 _ rfl
      have k0 : (0 : Int) ≤ (m : Int) := by omega
      have k1 : (m : Int) < ((m + 1 : Nat) : Int) := by omega
      have k2 : (m : Int) < (m : Int) + 1 := by omega
      have hql : (⟨S, P, I⟩ : Lc).p[(⟨S, P, I⟩ : Lc).p.length - 1]? = some q := by dsimp only; rw [HP.out]; exact hq
      obtain ⟨f, hf, hfn⟩ := valid_from HVT.out hql
      dsimp only at hfn
      rw [HS.out] at hfn
      cases hbase : q.base with
      | true =>
        have HR := Lib.hid (popL_base HVT.out hql hbase)
        rw [hbase] at c2
        clear hc hzz hn hq hql hbase hf hfn
        go_wp2_with fail
        refine bodyPost_ret (v := .tuple #[locV none 0 0 none 0 0 none 0 0, .int .i64 9]) (by simp [results, Try.results24, go_sem, g20, g21, g22]) rfl ?_
        rw [HR.out]
        exact RetLR.fail hB1
      | false =>
        have hr := popL_ok HVT.out hql hbase
        dsimp only at hr
        rw [hf, Int.toNat_natCast, HP.out, Nat.add_sub_cancel] at hr
        have HR := Lib.hid hr
        have HQ := Lib.hid hq
        have HF := Lib.hid hf
        rw [hbase] at c2
        clear hc hzz hn hq hql hbase hf hr g20 g21 g22 fr r0 r1 r2
        go_wp2_with fail
        refine (rcut_any As ns cs (some ⟨b, off, none⟩) (m + 1) cp Ai ni ci S P I m f q _ hh1 HHS.out HHP.out HQ.out HF.out hfn).mono ?_
        rintro e w2 ⟨A1, c1, A2, c2, A3, c3, rfl, hown, hb2⟩
        have R2 := HR1.out.below hb2
        have fr := R2.free
        have r0 := R2.cell 0 _ rfl
        have r1 := R2.cell 1 _ rfl
        have r2 := R2.cell 2 _ rfl
        have G := R2.put3 (.slice A1 f c1) (.slice A2 m c2) (.slice A3 ni c3)
        have g20 := G.cell 0 _ rfl
        have g21 := G.cell 1 _ rfl
        have g22 := G.cell 2 _ rfl
        have hlt := HS1.out
        have HO := Lib.hid (hown.box3 R2 (q1 := A1) (m1 := f) (k1 := c1) (q2 := A2) (m2 := m) (k2 := c2) (q3 := A3) (m3 := ni) (k3 := c3))
        have HBF := Lib.hid (keep_set3 (keep_below hb2 hB1) (.slice A1 f c1) (.slice A2 m c2) (.slice A3 ni c3))
        clear G R2 hown hb2 hB1 hlt
        go_wp2_with fail
        refine bodyPost_ret (v := .tuple #[locV A1 f c1 A2 m c2 A3 ni c3, .int .i64 0]) (by simp [results, Try.results24, go_sem, g20, g21, g22]) rfl ?_
        exact RetLR.mk' HR.out HO.out HBF.out

theorem leaveL_find {x : Lc} (h : x.valid = true) {m : Nat} (hm : m < x.p.length) (hb : (scAt x.p m).base = true) (ha : ∀ j, m < j → j < x.p.length → (scAt x.p j).base = false) : leaveL x = (cutL x m, 0) := by
  have key : ∀ k, k ≤ x.p.length → ∀ j ∈ downto x.p k, x.p.length - k ≤ j.val := by
    intro k
    induction k with
    | zero => intro _ j hj; cases hj
    | succ k ih =>
      intro hk j hj
      rw [downto_succ x.p k (by omega), List.mem_append, List.mem_singleton] at hj
      rcases hj with hj | rfl
      · have := ih (by omega) j hj; omega
      · dsimp only; omega
  have hd := downto_succ x.p (x.p.length - 1 - m) (by omega)
  refine (leaveL_at h (k := x.p.length - 1 - m + 1) (by omega) (ini := downto x.p (x.p.length - 1 - m)) (m := ⟨m, hm⟩) ?_ ?_ hb).trans rfl
  · rw [hd]; congr 3; omega
  · intro j hj
    have := key _ (by omega) j hj
    exact ha j.val (by omega) j.isLt
theorem leaveL_no {x : Lc} (h : x.valid = true) (ha : ∀ j, j < x.p.length → (scAt x.p j).base = false) : leaveL x = (Lc.nil, 9) := leaveL_none h (fun k _ => ha k.val k.isLt)

set_option linter.unusedSimpArgs false in
set_option maxRecDepth 100000 in
set_option maxHeartbeats 4000000 in
theorem rleave_any (As : Option Addr) (ns cs : Nat) (Ap : Option Addr) (np cp : Nat) (Ai : Option Addr) (ni ci : Nat) (S : List Sl) (P : List Sc) (I : List Int) (w : World) (h : LRd w As ns cs Ap np cp Ai ni ci S P I)
    (hs : ns ≤ 1000000) (hp : np ≤ 1000000) :
    Calls Try.prog 26 #[locV As ns cs Ap np cp Ai ni ci] w (RetLR w (leaveL ⟨S, P, I⟩)) := by
  obtain ⟨hS, hP, hI⟩ := h.lens
  have hB : Below w.heap.size w ((w.alloc (.cells #[.slice As ns cs, .slice Ap np cp, .slice Ai ni ci] 26)).alloc (.cells #[.slice none 0 0, .slice none 0 0, .slice none 0 0] 26)) := keep_alloc (loc_alloc w _ _ _ _) _
  have B0 := (Blk.new w #[.slice As ns cs, .slice Ap np cp, .slice Ai ni ci] 26).alloc (.cells #[.slice none 0 0, .slice none 0 0, .slice none 0 0] 26)
  have R0 := Blk.newAt (w.alloc (.cells #[.slice As ns cs, .slice Ap np cp, .slice Ai ni ci] 26)) #[.slice none 0 0, .slice none 0 0, .slice none 0 0] 26 (w.heap.size + 1) (by simp)
  have hh := h.belowU hB
  have hsz : ((w.alloc (.cells #[.slice As ns cs, .slice Ap np cp, .slice Ai ni ci] 26)).alloc (.cells #[.slice none 0 0, .slice none 0 0, .slice none 0 0] 26)).heap.size = w.heap.size + 2 := by simp
  have HSZ := Lib.hid hsz
  have HHS := Lib.hid hs
  have HHP := Lib.hid hp
  have HS := Lib.hid hS
  have HP := Lib.hid hP
  have hpn : np ≤ 1000000 := hp
  obtain ⟨vb, hvb⟩ : ∃ vb, validL S P I = vb := ⟨_, rfl⟩
  have HVB := Lib.hid hvb
  clear h hsz hs hp hvb hS hP hI
  go_enter Try.func26, Try.ntmps26
  go_wp2_with fail
  refine (rvalid_any As ns cs Ap np cp Ai ni ci S P I _ hh).mono ?_
  rw [HVB.out]
  rintro e w1 ⟨rfl, hb1⟩
  have B1 := B0.below hb1
  have R1 := R0.below hb1
  have hh1 := hh.belowU hb1
  have hB1 := keep_below hb1 hB
  have hs1 : w.heap.size + 2 ≤ w1.heap.size := by have := HSZ.out; have := hb1.size; omega
  clear B0 R0 hh hb1 hB
  cases vb with
  | false =>
    have HRES := Lib.hid (leaveL_arg (x := ⟨S, P, I⟩) HVB.out)
    clear B1 hh1
    have fr := R1.free
    have r0 := R1.cell 0 _ rfl
    have r1 := R1.cell 1 _ rfl
    have r2 := R1.cell 2 _ rfl
    have G := R1.put3 (.slice none 0 0) (.slice none 0 0) (.slice none 0 0)
    have g20 := G.cell 0 _ rfl
    have g21 := G.cell 1 _ rfl
    have g22 := G.cell 2 _ rfl
    clear G
    go_wp2_with fail
    refine bodyPost_ret (v := .tuple #[locV none 0 0 none 0 0 none 0 0, .int .i64 1]) (by simp [results, Try.results26, go_sem, g20, g21, g22]) rfl ?_
    rw [HRES.out]
    exact RetLR.fail hB1
  | true =>
  have HVT := Lib.hid (show (⟨S, P, I⟩ : Lc).valid = true from HVB.out)
  have b0 := B1.cell 0 _ rfl
  have b1 := B1.cell 1 _ rfl
  have b2 := B1.cell 2 _ rfl
  have hw0 : IntKind.i64.wrap ((np : Int) - 1) = (np : Int) - 1 := IntWalk.i64_in _ (by omega)
  go_wp2_with fail
  go_loopw [4] (fun i wr => ∃ k : Nat, k ≤ np ∧ i = .int .i64 ((k : Int) - 1) ∧ wr = w1 ∧ ∀ j, k ≤ j → j < np → (scAt P j).base = false) (fun i _ => (intOf i + 1).toNat)
  case atStart => exact ⟨np, Nat.le_refl _, rfl, rfl, fun j h1 h2 => by omega⟩
  case round =>
    obtain ⟨k, hk, rfl, rfl, hall⟩ := hrel
    have HAL := Lib.hid hall
    clear hall hw0
    by_cases hlt : 0 < k
    · obtain ⟨m, rfl⟩ : ∃ m, k = m + 1 := ⟨k - 1, by omega⟩
      have hi : ((m + 1 : Nat) : Int) - 1 = (m : Int) := by omega
      rw [hi]
      have HI := Lib.hid hi
      obtain ⟨b, off, q, rfl, hbb, hq, hc⟩ := hh1.p.elem scCells_len (by omega) (show m < np by omega)
      have c2 := hc 2 _ rfl
      have k0 : (0 : Int) ≤ (m : Int) := by omega
      have k1 : (m : Int) < (np : Int) := by omega
      have e0 : decide ((0 : Int) ≤ (m : Int)) = true := decide_eq_true k0
      have hw1 : IntKind.i64.wrap ((m : Int) - 1) = (m : Int) - 1 := IntWalk.i64_in _ (by omega)
      have HQ := Lib.hid hq
      have HSA := Lib.hid (scAt_of hq)
      clear hc hq hi hlt
      cases hbase : q.base with
      | false =>
        rw [hbase] at c2
        have HBA := Lib.hid hbase
        clear hbase
        go_wp2_with fail
        go_roundw
        case rel => exact ⟨m, by omega, by first | rfl | go_num, by first | rfl | trivial, fun j h1 h2 => by
          by_cases he : j = m
          · rw [he, HSA.out]; exact HBA.out
          · exact HAL.out j (by omega) h2⟩
        case measure => first | (simp [intOf]; done) | (simp [intOf]; omega)
      | true =>
        rw [hbase] at c2
        obtain ⟨f, hf, hfn⟩ := valid_from HVT.out HQ.out
        dsimp only at hfn
        rw [HS.out] at hfn
        have hr := leaveL_find (x := ⟨S, P, I⟩) HVT.out (m := m) (by dsimp only; rw [HP.out]; omega) (by dsimp only; rw [HSA.out]; exact hbase) (fun j h1 h2 => HAL.out j (by omega) (by dsimp only at h2; rw [HP.out] at h2; exact h2))
        have hcut : cutL ⟨S, P, I⟩ m = ⟨S.take f, P.take m, I⟩ := by
          unfold cutL
          dsimp only
          rw [HQ.out]
          dsimp only
          rw [hf, Int.toNat_natCast]
        rw [hcut] at hr
        have HR := Lib.hid hr
        have HF := Lib.hid hf
        clear hr hcut hf hbase
        go_wp2_with fail
        refine (rcut_any As ns cs (some ⟨b, off, none⟩) np cp Ai ni ci S P I m f q _ hh1 HHS.out HHP.out HQ.out HF.out hfn).mono ?_
        rintro e w2 ⟨A1, k1', A2, k2', A3, k3', rfl, hown, hb2⟩
        have R2 := R1.below hb2
        have fr := R2.free
        have r0 := R2.cell 0 _ rfl
        have r1 := R2.cell 1 _ rfl
        have r2 := R2.cell 2 _ rfl
        have G := R2.put3 (.slice A1 f k1') (.slice A2 m k2') (.slice A3 ni k3')
        have g20 := G.cell 0 _ rfl
        have g21 := G.cell 1 _ rfl
        have g22 := G.cell 2 _ rfl
        have HO := Lib.hid (hown.box3 R2 (q1 := A1) (m1 := f) (k1 := k1') (q2 := A2) (m2 := m) (k2 := k2') (q3 := A3) (m3 := ni) (k3 := k3'))
        have HBF := Lib.hid (keep_set3 (keep_below hb2 hB1) (.slice A1 f k1') (.slice A2 m k2') (.slice A3 ni k3'))
        clear G R2 hown hb2
        go_wp2_with fail
        refine bodyPost_ret (v := .tuple #[locV A1 f k1' A2 m k2' A3 ni k3', .int .i64 0]) (by simp [results, Try.results26, go_sem, g20, g21, g22]) rfl ?_
        exact RetLR.mk' HR.out HO.out HBF.out
    · obtain rfl : k = 0 := by omega
      have hi : ((0 : Nat) : Int) - 1 = -1 := by omega
      rw [hi]
      have HRES := Lib.hid (leaveL_no (x := ⟨S, P, I⟩) HVT.out (fun j hj => HAL.out j (by omega) (by dsimp only at hj; rw [HP.out] at hj; exact hj)))
      clear hi hlt
      have fr := R1.free
      have r0 := R1.cell 0 _ rfl
      have r1 := R1.cell 1 _ rfl
      have r2 := R1.cell 2 _ rfl
      have G := R1.put3 (.slice none 0 0) (.slice none 0 0) (.slice none 0 0)
      have g20 := G.cell 0 _ rfl
      have g21 := G.cell 1 _ rfl
      have g22 := G.cell 2 _ rfl
      clear G
      go_wp2_with fail
      refine bodyPost_ret (v := .tuple #[locV none 0 0 none 0 0 none 0 0, .int .i64 9]) (by simp [results, Try.results26, go_sem, g20, g21, g22]) rfl ?_
      rw [HRES.out]
      exact RetLR.fail hB1

set_option maxHeartbeats 1000000 in
theorem renter_any (As : Option Addr) (ns cs : Nat) (Ap : Option Addr) (np cp : Nat) (Ai : Option Addr) (ni ci : Nat) (S : List Sl) (P : List Sc) (I : List Int) (c : Int) (w : World) (h : LRd w As ns cs Ap np cp Ai ni ci S P I)
    (hs : ns ≤ 1000000) (hi : ni ≤ 1000000) :
    Calls Try.prog 19 #[locV As ns cs Ap np cp Ai ni ci, .int .i64 c] w (RetLR w (openL ⟨S, P, I⟩ c true)) := by
  have hB : Below w.heap.size w ((w.alloc (.cells #[.slice As ns cs, .slice Ap np cp, .slice Ai ni ci] 26)).alloc (.cells #[.slice none 0 0, .slice none 0 0, .slice none 0 0] 26)) := keep_alloc (loc_alloc w _ _ _ _) _
  have R0 := Blk.newAt (w.alloc (.cells #[.slice As ns cs, .slice Ap np cp, .slice Ai ni ci] 26)) #[.slice none 0 0, .slice none 0 0, .slice none 0 0] 26 (w.heap.size + 1) (by simp)
  have hh := h.belowU hB
  have hsz : w.heap.size + 2 ≤ ((w.alloc (.cells #[.slice As ns cs, .slice Ap np cp, .slice Ai ni ci] 26)).alloc (.cells #[.slice none 0 0, .slice none 0 0, .slice none 0 0] 26)).heap.size := by simp
  have HSZ := Lib.hid hsz
  clear h hsz
  obtain ⟨r, hr⟩ : ∃ r, openL ⟨S, P, I⟩ c true = r := ⟨_, rfl⟩
  rw [hr]
  have HR := Lib.hid hr
  clear hr
  go_enter Try.func19, Try.ntmps19
  go_wp2_with fail
  refine (ropen_any As ns cs Ap np cp Ai ni ci S P I c true _ hh hs hi).mono ?_
  rw [HR.out]
  rintro e w2 ⟨A1, c1, A2, c2, A3, c3, rfl, hown, hb2⟩
  have R2 := R0.below hb2
  have fr := R2.free
  have r0 := R2.cell 0 _ rfl
  have r1 := R2.cell 1 _ rfl
  have r2 := R2.cell 2 _ rfl
  have G := R2.put3 (.slice A1 r.1.s.length c1) (.slice A2 r.1.p.length c2) (.slice A3 r.1.i.length c3)
  have g0 := G.cell 0 _ rfl
  have g1 := G.cell 1 _ rfl
  have g2 := G.cell 2 _ rfl
  have HO := Lib.hid (hown.box3 R2 (q1 := A1) (m1 := r.1.s.length) (k1 := c1) (q2 := A2) (m2 := r.1.p.length) (k2 := c2) (q3 := A3) (m3 := r.1.i.length) (k3 := c3))
  have HBF := Lib.hid (keep_set3 (keep_below hb2 hB) (.slice A1 r.1.s.length c1) (.slice A2 r.1.p.length c2) (.slice A3 r.1.i.length c3))
  clear G R2 hown hb2 R0 hB hh
  go_wp2_with fail
  refine bodyPost_ret (v := .tuple #[locV A1 r.1.s.length c1 A2 r.1.p.length c2 A3 r.1.i.length c3, .int .i64 r.2]) (by simp [results, Try.results19, go_sem, g0, g1, g2]) rfl ?_
  exact ⟨A1, c1, A2, c2, A3, c3, rfl, HO.out, HBF.out⟩

set_option maxHeartbeats 1000000 in
theorem rpush_any (As : Option Addr) (ns cs : Nat) (Ap : Option Addr) (np cp : Nat) (Ai : Option Addr) (ni ci : Nat) (S : List Sl) (P : List Sc) (I : List Int) (c : Int) (w : World) (h : LRd w As ns cs Ap np cp Ai ni ci S P I)
    (hs : ns ≤ 1000000) (hi : ni ≤ 1000000) :
    Calls Try.prog 21 #[locV As ns cs Ap np cp Ai ni ci, .int .i64 c] w (RetLR w (openL ⟨S, P, I⟩ c false)) := by
  have hB : Below w.heap.size w ((w.alloc (.cells #[.slice As ns cs, .slice Ap np cp, .slice Ai ni ci] 26)).alloc (.cells #[.slice none 0 0, .slice none 0 0, .slice none 0 0] 26)) := keep_alloc (loc_alloc w _ _ _ _) _
  have R0 := Blk.newAt (w.alloc (.cells #[.slice As ns cs, .slice Ap np cp, .slice Ai ni ci] 26)) #[.slice none 0 0, .slice none 0 0, .slice none 0 0] 26 (w.heap.size + 1) (by simp)
  have hh := h.belowU hB
  have hsz : w.heap.size + 2 ≤ ((w.alloc (.cells #[.slice As ns cs, .slice Ap np cp, .slice Ai ni ci] 26)).alloc (.cells #[.slice none 0 0, .slice none 0 0, .slice none 0 0] 26)).heap.size := by simp
  have HSZ := Lib.hid hsz
  clear h hsz
  obtain ⟨r, hr⟩ : ∃ r, openL ⟨S, P, I⟩ c false = r := ⟨_, rfl⟩
  rw [hr]
  have HR := Lib.hid hr
  clear hr
  go_enter Try.func21, Try.ntmps21
  go_wp2_with fail
  refine (ropen_any As ns cs Ap np cp Ai ni ci S P I c false _ hh hs hi).mono ?_
  rw [HR.out]
  rintro e w2 ⟨A1, c1, A2, c2, A3, c3, rfl, hown, hb2⟩
  have R2 := R0.below hb2
  have fr := R2.free
  have r0 := R2.cell 0 _ rfl
  have r1 := R2.cell 1 _ rfl
  have r2 := R2.cell 2 _ rfl
  have G := R2.put3 (.slice A1 r.1.s.length c1) (.slice A2 r.1.p.length c2) (.slice A3 r.1.i.length c3)
  have g0 := G.cell 0 _ rfl
  have g1 := G.cell 1 _ rfl
  have g2 := G.cell 2 _ rfl
  have HO := Lib.hid (hown.box3 R2 (q1 := A1) (m1 := r.1.s.length) (k1 := c1) (q2 := A2) (m2 := r.1.p.length) (k2 := c2) (q3 := A3) (m3 := r.1.i.length) (k3 := c3))
  have HBF := Lib.hid (keep_set3 (keep_below hb2 hB) (.slice A1 r.1.s.length c1) (.slice A2 r.1.p.length c2) (.slice A3 r.1.i.length c3))
  clear G R2 hown hb2 R0 hB hh
  go_wp2_with fail
  refine bodyPost_ret (v := .tuple #[locV A1 r.1.s.length c1 A2 r.1.p.length c2 A3 r.1.i.length c3, .int .i64 r.2]) (by simp [results, Try.results21, go_sem, g0, g1, g2]) rfl ?_
  exact ⟨A1, c1, A2, c2, A3, c3, rfl, HO.out, HBF.out⟩
end Go.Proofs.Ytmcdhpbkhchpeaa

/- The contract of scope.Pop. -/
import Derived.Test.YtmcdhpbkhchpeaaScope14
namespace Go.Proofs.Ytmcdhpbkhchpeaa
open Go.ChangeShapes Go.WideShapes Go.RowKit Words

/-- without the scopes from scope k on -/
def cutL (x : Lc) (k : Nat) : Lc := match x.p[k]? with
  | some q => ⟨x.s.take q.from_.toNat, x.p.take k, x.i⟩
  | none => Lc.nil
def popL (x : Lc) : Lc × Int := if x.valid = false then (Lc.nil, 1) else match x.p[x.p.length - 1]? with
  | none => (Lc.nil, 9)
  | some q => if q.base = true then (Lc.nil, 9) else (cutL x (x.p.length - 1), 0)
theorem popL_arg {x : Lc} (h : x.valid = false) : popL x = (Lc.nil, 1) := by unfold popL; rw [if_pos h]
theorem popL_none {x : Lc} (h : x.valid = true) (h2 : x.p[x.p.length - 1]? = none) : popL x = (Lc.nil, 9) := by unfold popL; rw [if_neg (by rw [h]; decide), h2]
theorem popL_base {x : Lc} {q : Sc} (h : x.valid = true) (h2 : x.p[x.p.length - 1]? = some q) (h3 : q.base = true) : popL x = (Lc.nil, 9) := by unfold popL; rw [if_neg (by rw [h]; decide), h2]; exact if_pos h3
theorem popL_ok {x : Lc} {q : Sc} (h : x.valid = true) (h2 : x.p[x.p.length - 1]? = some q) (h3 : q.base = false) : popL x = (⟨x.s.take q.from_.toNat, x.p.take (x.p.length - 1), x.i⟩, 0) := by
  unfold popL cutL; rw [if_neg (by rw [h]; decide), h2]; exact if_neg (by rw [h3]; decide)
theorem valid_from {x : Lc} (h : x.valid = true) {k : Nat} {q : Sc} (hq : x.p[k]? = some q) : ∃ f : Nat, q.from_ = (f : Int) ∧ f ≤ x.s.length := by
  unfold Lc.valid validL at h
  simp only [Bool.and_eq_true] at h
  have := nested_at h.2.1 hq
  exact ⟨q.from_.toNat, by omega, by omega⟩

set_option linter.unusedSimpArgs false in
set_option maxRecDepth 100000 in
set_option maxHeartbeats 4000000 in
theorem pop_any (As : Option Addr) (ns cs : Nat) (Ap : Option Addr) (np cp : Nat) (Ai : Option Addr) (ni ci : Nat) (S : List Sl) (P : List Sc) (I : List Int) (w : World) (h : LRd w As ns cs Ap np cp Ai ni ci S P I)
    (hs : ns ≤ 1000000) (hp : np ≤ 1000000) (hi : ni ≤ 1000000) :
    Calls Try.prog 23 #[locV As ns cs Ap np cp Ai ni ci] w (RetLE w (popL ⟨S, P, I⟩)) := by
  obtain ⟨hS, hP, hI⟩ := h.lens
  have hB : Below w.heap.size w ((w.alloc (.cells #[.slice As ns cs, .slice Ap np cp, .slice Ai ni ci] 26)).alloc (.cells #[.slice none 0 0, .slice none 0 0, .slice none 0 0] 26)) := keep_alloc (loc_alloc w _ _ _ _) _
  have B0 := (Blk.new w #[.slice As ns cs, .slice Ap np cp, .slice Ai ni ci] 26).alloc (.cells #[.slice none 0 0, .slice none 0 0, .slice none 0 0] 26)
  have R0 := Blk.newAt (w.alloc (.cells #[.slice As ns cs, .slice Ap np cp, .slice Ai ni ci] 26)) #[.slice none 0 0, .slice none 0 0, .slice none 0 0] 26 (w.heap.size + 1) (by simp)
  have hh := h.belowU hB
  have hsz : ((w.alloc (.cells #[.slice As ns cs, .slice Ap np cp, .slice Ai ni ci] 26)).alloc (.cells #[.slice none 0 0, .slice none 0 0, .slice none 0 0] 26)).heap.size = w.heap.size + 2 := by simp
  have HSZ := Lib.hid hsz
  have HHS := Lib.hid hs
  have HHP := Lib.hid hp
  have HHI := Lib.hid hi
  obtain ⟨vb, hvb⟩ : ∃ vb, validL S P I = vb := ⟨_, rfl⟩
  have HVB := Lib.hid hvb
  have HS := Lib.hid hS
  have HP := Lib.hid hP
  have HI := Lib.hid hI
  have b1 := B0.cell 1 _ rfl
  have hwp : ∃ z : Int, IntKind.i64.wrap ((np : Int) - 1) = z ∧ z = (np : Int) - 1 := ⟨_, rfl, IntWalk.i64_in _ (by omega)⟩
  obtain ⟨z, hz, hzz⟩ := hwp
  clear h hsz hs hp hi hvb hS hP hI
  cases vb with
  | false =>
    have HR := Lib.hid (popL_arg (x := ⟨S, P, I⟩) HVB.out)
    go_enter Try.func23, Try.ntmps23
    go_wp2_with fail
    refine (valid_any As ns cs Ap np cp Ai ni ci S P I _ hh).mono ?_
    rw [HVB.out]
    rintro e w1 ⟨rfl, hb1⟩
    have R1 := R0.below hb1
    have fr := R1.free
    have r0 := R1.cell 0 _ rfl
    have r1 := R1.cell 1 _ rfl
    have r2 := R1.cell 2 _ rfl
    have G := R1.put3 (.slice none 0 0) (.slice none 0 0) (.slice none 0 0)
    have g20 := G.cell 0 _ rfl
    have g21 := G.cell 1 _ rfl
    have g22 := G.cell 2 _ rfl
    have hB1 := keep_below hb1 hB
    clear R1 G hb1 hB B0 R0 hh
    go_wp2_with fail
    refine bodyPost_ret (v := .tuple #[locV none 0 0 none 0 0 none 0 0, .int .i64 1]) (by simp [results, Try.results23, go_sem, g20, g21, g22]) rfl ?_
    rw [HR.out]
    exact RetLE.fail hB1
  | true =>
    have HVT := Lib.hid (show (⟨S, P, I⟩ : Lc).valid = true from HVB.out)
    go_enter Try.func23, Try.ntmps23
    go_wp2_with fail
    refine (valid_any As ns cs Ap np cp Ai ni ci S P I _ hh).mono ?_
    rw [HVB.out]
    rintro e w1 ⟨rfl, hb1⟩
    have B1 := B0.below hb1
    have R1 := R0.below hb1
    have hh1 := hh.belowU hb1
    have hB1 := keep_below hb1 hB
    have hs1 : w.heap.size + 2 ≤ w1.heap.size := by have := HSZ.out; have := hb1.size; omega
    have HS1 := Lib.hid hs1
    have fr := R1.free
    have r0 := R1.cell 0 _ rfl
    have r1 := R1.cell 1 _ rfl
    have r2 := R1.cell 2 _ rfl
    have G := R1.put3 (.slice none 0 0) (.slice none 0 0) (.slice none 0 0)
    have g20 := G.cell 0 _ rfl
    have g21 := G.cell 1 _ rfl
    have g22 := G.cell 2 _ rfl
    clear b1
    have b0 := B1.cell 0 _ rfl
    have b1 := B1.cell 1 _ rfl
    have b2 := B1.cell 2 _ rfl
    have HR1 := Lib.hid R1
    clear B0 R0 hh hB hb1 G B1 R1 hs1
    by_cases hn : np = 0
    · have HR := Lib.hid (popL_none HVT.out (by dsimp only; rw [HP.out, hn]; exact List.getElem?_eq_none (by rw [HP.out]; omega)))
      subst hn
      obtain rfl : z = -1 := by omega
      have e2 : IntKind.i64.wrap (-1) = -1 := by decide
      clear hzz hz
      go_wp2_with fail
      refine bodyPost_ret (v := .tuple #[locV none 0 0 none 0 0 none 0 0, .int .i64 9]) (by simp [results, Try.results23, go_sem, g20, g21, g22]) rfl ?_
      rw [HR.out]
      exact RetLE.fail hB1
    · obtain ⟨m, rfl⟩ : ∃ m, np = m + 1 := ⟨np - 1, by omega⟩
      obtain rfl : z = (m : Int) := by omega
      have e1 : decide ((m : Int) < 0) = false := decide_eq_false (by omega)
      obtain ⟨b, off, q, rfl, hbb, hq, hc⟩ := hh1.p.elem scCells_len (by omega) (show m < m + 1 by omega)
      have c2 := hc 2 _ rfl
      have k0 : (0 : Int) ≤ (m : Int) := by omega
      have k1 : (m : Int) < ((m + 1 : Nat) : Int) := by omega
      have k2 : (m : Int) < (m : Int) + 1 := by omega
      have hql : (⟨S, P, I⟩ : Lc).p[(⟨S, P, I⟩ : Lc).p.length - 1]? = some q := by dsimp only; rw [HP.out]; exact hq
      obtain ⟨f, hf, hfn⟩ := valid_from HVT.out hql
      dsimp only at hfn
      rw [HS.out] at hfn
      cases hbase : q.base with
      | true =>
        have HR := Lib.hid (popL_base HVT.out hql hbase)
        rw [hbase] at c2
        clear hc hzz hn hq hql hbase hf hfn
        go_wp2_with fail
        refine bodyPost_ret (v := .tuple #[locV none 0 0 none 0 0 none 0 0, .int .i64 9]) (by simp [results, Try.results23, go_sem, g20, g21, g22]) rfl ?_
        rw [HR.out]
        exact RetLE.fail hB1
      | false =>
        have hr := popL_ok HVT.out hql hbase
        dsimp only at hr
        rw [hf, Int.toNat_natCast, HP.out, Nat.add_sub_cancel] at hr
        have HR := Lib.hid hr
        have HQ := Lib.hid hq
        have HF := Lib.hid hf
        rw [hbase] at c2
        clear hc hzz hn hq hql hbase hf hr g20 g21 g22 fr r0 r1 r2
        go_wp2_with fail
        refine (closed_any As ns cs (some ⟨b, off, none⟩) (m + 1) cp Ai ni ci S P I m f q _ hh1 HHS.out HHP.out HHI.out HQ.out HF.out hfn).mono ?_
        rintro e w2 ⟨A1, c1, A2, c2, A3, c3, rfl, hown, hb2⟩
        have R2 := HR1.out.below hb2
        have fr := R2.free
        have r0 := R2.cell 0 _ rfl
        have r1 := R2.cell 1 _ rfl
        have r2 := R2.cell 2 _ rfl
        have G := R2.put3 (.slice A1 f c1) (.slice A2 m c2) (.slice A3 ni c3)
        have g20 := G.cell 0 _ rfl
        have g21 := G.cell 1 _ rfl
        have g22 := G.cell 2 _ rfl
        have hlt := HS1.out
        have HO := Lib.hid (((((hown.far (a := ⟨w.heap.size + 1, 0, none⟩) (by show w.heap.size + 1 < _; omega) (.slice A1 f c1)).far (a := ⟨w.heap.size + 1, 1, none⟩) (by show w.heap.size + 1 < _; omega) (.slice A2 m c2)).far (a := ⟨w.heap.size + 1, 2, none⟩) (by show w.heap.size + 1 < _; omega) (.slice A3 ni c3))).rebase (base' := w.heap.size) (by omega))
        have HBF := Lib.hid (keep_set3 (keep_below hb2 hB1) (.slice A1 f c1) (.slice A2 m c2) (.slice A3 ni c3))
        clear G R2 hown hb2 hB1 hlt
        go_wp2_with fail
        refine bodyPost_ret (v := .tuple #[locV A1 f c1 A2 m c2 A3 ni c3, .int .i64 0]) (by simp [results, Try.results23, go_sem, g20, g21, g22]) rfl ?_
        exact RetLE.mk' HR.out (by rw [List.length_take, HS.out]; omega) (by rw [List.length_take, HP.out]; omega) HI.out HO.out HBF.out
end Go.Proofs.Ytmcdhpbkhchpeaa

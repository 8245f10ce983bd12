/- The contract of the reference's New. Printed by mk_scope18.py. -/
import Derived.Test.YtmcdhpbkhchpeaaScopeRet
import Derived.Test.YtmcdhpbkhchpeaaScope10
import Derived.Deep.Cut
namespace Go.Proofs.Ytmcdhpbkhchpeaa
open Go.ChangeShapes Go.WideShapes Go.RowKit Words

/-- local handles that can be read, an index, a stamp and an error code come back -/
def RetRN (w : World) (r : Lc × Int × Int × Int) (e : Ending) (w' : World) : Prop :=
  ∃ As cs Ap cp Ai ci, e = .returned (.tuple #[locV As r.1.s.length cs Ap r.1.p.length cp Ai r.1.i.length ci, .int .i64 r.2.1, .int .i64 r.2.2.1, .int .i64 r.2.2.2]) ∧ LRd w' As r.1.s.length cs Ap r.1.p.length cp Ai r.1.i.length ci r.1.s r.1.p r.1.i ∧ Below w.heap.size w w'
theorem RetRN.fail {w w' : World} {er : Int} {a b c : Value} (hb : Below w.heap.size w w') : RetRN w (Lc.nil, 0, 0, er) (.returned (.tuple #[locV none 0 0 none 0 0 none 0 0, .int .i64 0, .int .i64 0, .int .i64 er])) (((w'.setCell ⟨w.heap.size + 1, 0, none⟩ a).setCell ⟨w.heap.size + 1, 1, none⟩ b).setCell ⟨w.heap.size + 1, 2, none⟩ c) :=
  ⟨none, 0, none, 0, none, 0, rfl, LRd.nil _, keep_set3 hb a b c⟩
theorem RetRN.mk' {w w' : World} {r : Lc × Int × Int × Int} {S : List Sl} {P : List Sc} {I : List Int} {i t er : Int} {A1 A2 A3 : Option Addr} {ns c1 np c2 ni c3 : Nat} (hr : r = (⟨S, P, I⟩, i, t, er)) (hO : LRd w' A1 ns c1 A2 np c2 A3 ni c3 S P I) (hB : Below w.heap.size w w') :
    RetRN w r (.returned (.tuple #[locV A1 ns c1 A2 np c2 A3 ni c3, .int .i64 i, .int .i64 t, .int .i64 er])) w' := by
  obtain ⟨hs, hp, hi⟩ := hO.lens
  subst hs hp hi
  rw [hr]
  exact ⟨A1, c1, A2, c2, A3, c3, rfl, hO, hB⟩
theorem fullL_at {S : List Sl} {P : List Sc} {I : List Int} {m c : Nat} {q : Sc} (hq : P[m]? = some q) (hm : P.length = m + 1) (hc : cntLive (seg S q.from_.toNat S.length) = c) : fullL ⟨S, P, I⟩ = decide (q.cap ≤ (c : Int)) := by
  have h1 : P.length - 1 = m := by omega
  have h2 : P[m + 1]? = none := List.getElem?_eq_none (by omega)
  simp only [fullL, h1, hq, liveAt, toN, h2, hc]

set_option linter.unusedSimpArgs false in
set_option maxRecDepth 100000 in
set_option maxHeartbeats 8000000 in
theorem rnew_any (As : Option Addr) (ns cs : Nat) (Ap : Option Addr) (np cp : Nat) (Ai : Option Addr) (ni ci : Nat) (S : List Sl) (P : List Sc) (I : List Int) (r : BitVec 64) (w : World) (h : LRd w As ns cs Ap np cp Ai ni ci S P I)
    (hs : ns ≤ 1000000) (hi : ni ≤ 1000000) :
    Calls Try.prog 27 #[locV As ns cs Ap np cp Ai ni ci, .int .u64 (U r)] w (RetRN w (newL ⟨S, P, I⟩ r)) := by
  obtain ⟨hS, hP, hI⟩ := h.lens
  have hB : Below w.heap.size w ((w.alloc (.cells #[.slice As ns cs, .slice Ap np cp, .slice Ai ni ci] 26)).alloc (.cells #[.slice none 0 0, .slice none 0 0, .slice none 0 0] 26)) := keep_alloc (loc_alloc w _ _ _ _) _
  have B0 := (Blk.new w #[.slice As ns cs, .slice Ap np cp, .slice Ai ni ci] 26).alloc (.cells #[.slice none 0 0, .slice none 0 0, .slice none 0 0] 26)
  have R0 := Blk.newAt (w.alloc (.cells #[.slice As ns cs, .slice Ap np cp, .slice Ai ni ci] 26)) #[.slice none 0 0, .slice none 0 0, .slice none 0 0] 26 (w.heap.size + 1) (by simp)
  have hh := h.belowU hB
  have hcap := h.p.cap
  have hple := h.p.le
  unfold maxLen at hcap
  have HHW := Lib.hid h
  have HS := Lib.hid hS
  have HP := Lib.hid hP
  have HI := Lib.hid hI
  have hsz : ((w.alloc (.cells #[.slice As ns cs, .slice Ap np cp, .slice Ai ni ci] 26)).alloc (.cells #[.slice none 0 0, .slice none 0 0, .slice none 0 0] 26)).heap.size = w.heap.size + 2 := by simp
  have HSZ := Lib.hid hsz
  obtain ⟨vb, hvb⟩ : ∃ vb, validL S P I = vb := ⟨_, rfl⟩
  have HVB := Lib.hid hvb
  obtain ⟨z, hz⟩ : ∃ z, (r == 0#64) = z := ⟨_, rfl⟩
  have hu : (U r == 0) = z := by rw [← hz]; exact U_eq r 0#64
  have HZ := Lib.hid hz
  have HHS := Lib.hid hs
  have HHI := Lib.hid hi
  clear h hS hP hI hsz hvb hz hs hi
  go_enter Try.func27, Try.ntmps27
  go_wp2_with fail
  refine (rvalid_any As ns cs Ap np cp Ai ni ci S P I _ hh).mono ?_
  rw [HVB.out]
  rintro e w1 ⟨rfl, hb1⟩
  have B1 := B0.below hb1
  have R1 := R0.below hb1
  have hh1 := hh.belowU hb1
  have hB1 := keep_below hb1 hB
  have hs1 : w.heap.size + 2 ≤ w1.heap.size := by have := HSZ.out; have := hb1.size; omega
  have HS1 := Lib.hid hs1
  have fr := R1.free
  have r0 := R1.cell 0 _ rfl
  have r1 := R1.cell 1 _ rfl
  have r2 := R1.cell 2 _ rfl
  have G := R1.put3 (.slice none 0 0) (.slice none 0 0) (.slice none 0 0)
  have g20 := G.cell 0 _ rfl
  have g21 := G.cell 1 _ rfl
  have g22 := G.cell 2 _ rfl
  have b0 := B1.cell 0 _ rfl
  have b1 := B1.cell 1 _ rfl
  have b2 := B1.cell 2 _ rfl
  clear B0 R0 hh hB hb1 G hs1
  by_cases hbad : vb = false ∨ z = true
  · have HR := Lib.hid (newL_arg (x := ⟨S, P, I⟩) (r := r) (by rcases hbad with h | h; exact Or.inl (HVB.out.trans h); exact Or.inr (beq_iff_eq.1 (HZ.out.trans h))))
    clear B1 R1 hh1
    cases vb with
    | false =>
      go_wp2_with fail
      refine bodyPost_ret (v := .tuple #[locV none 0 0 none 0 0 none 0 0, .int .i64 0, .int .i64 0, .int .i64 1]) (by simp [results, Try.results27, go_sem, g20, g21, g22]) rfl ?_
      rw [HR.out]
      exact RetRN.fail hB1
    | true =>
      obtain rfl : z = true := by rcases hbad with h | h; cases h; exact h
      go_wp2_with fail
      refine bodyPost_ret (v := .tuple #[locV none 0 0 none 0 0 none 0 0, .int .i64 0, .int .i64 0, .int .i64 1]) (by simp [results, Try.results27, go_sem, g20, g21, g22]) rfl ?_
      rw [HR.out]
      exact RetRN.fail hB1
  obtain rfl : vb = true := by cases vb; exact absurd (Or.inl rfl) hbad; rfl
  obtain rfl : z = false := by cases z; rfl; exact absurd (Or.inr rfl) hbad
  have HNB := Lib.hid (show ¬ ((⟨S, P, I⟩ : Lc).valid = false ∨ r = 0#64) by
    rintro (h | h)
    · have := HVB.out; unfold Lc.valid at h; dsimp only at h; rw [h] at this; cases this
    · have := HZ.out; rw [h] at this; cases this)
  clear hbad
  by_cases hn0 : np = 0
  · have HR := Lib.hid (newL_scope HNB.out (by dsimp only; rw [HP.out]; exact hn0))
    subst hn0
    clear B1 R1 hh1
    go_wp2_with fail
    refine bodyPost_ret (v := .tuple #[locV none 0 0 none 0 0 none 0 0, .int .i64 0, .int .i64 0, .int .i64 9]) (by simp [results, Try.results27, go_sem, g20, g21, g22]) rfl ?_
    rw [HR.out]
    exact RetRN.fail hB1
  obtain ⟨m, rfl⟩ : ∃ m, np = m + 1 := ⟨np - 1, by omega⟩
  have HN1 := Lib.hid (show ¬ (⟨S, P, I⟩ : Lc).p.length = 0 by dsimp only; rw [HP.out]; exact hn0)
  have hwm : IntKind.i64.wrap (((m + 1 : Nat) : Int) - 1) = (m : Int) := by rw [IntWalk.i64_in _ (by omega)]; omega
  have hwm2 : IntKind.i64.wrap ((m : Int) + 1 - 1) = (m : Int) := by rw [IntWalk.i64_in _ (by omega)]; omega
  have hwm3 : IntKind.i64.wrap (m : Int) = (m : Int) := IntWalk.i64_in _ (by omega)
  have hm0 : (((m + 1 : Nat) : Int) == 0) = false := beq_false_of_ne (by omega)
  have hm1 : ((m : Int) + 1 == 0) = false := beq_false_of_ne (by omega)
  obtain ⟨b, off, q, rfl, hbb, hq, hc⟩ := hh1.p.elem scCells_len (by omega) (show m < m + 1 by omega)
  have c0 := hc 0 _ rfl
  have c1 := hc 1 _ rfl
  rw [Nat.add_zero] at c0
  have hva := HVB.out
  unfold validL at hva
  simp only [Bool.and_eq_true] at hva
  obtain ⟨n1, n2, -, -, -⟩ := nested_at hva.2.1 hq
  obtain ⟨f, hf⟩ := Int.eq_ofNat_of_zero_le n1
  rw [hf] at c0 n2
  rw [HS.out] at n2
  obtain ⟨lv, hlv⟩ : ∃ lv, cntLive (seg S f ns) = lv := ⟨_, rfl⟩
  have HLV := Lib.hid hlv
  have hful := fullL_at (I := I) hq HP.out (c := lv) (by rw [hf, HS.out, Int.toNat_natCast]; exact hlv)
  have HFU := Lib.hid hful
  have k0 : (0 : Int) ≤ (m : Int) := by omega
  have k1 : (m : Int) < ((m + 1 : Nat) : Int) := by omega
  have k2 : (m : Int) < (m : Int) + 1 := by omega
  have HRS := Lib.hid r0
  have HB1 := Lib.hid B1
  have HR1 := Lib.hid R1
  clear hc hva hq hf hful hlv hn0 B1 R1
  go_upto_region 6 with fail
  have X0 := Lag.cell b0
  have X1 := Lag.cell b1
  have X2 := Lag.cell b2
  have C0 := Lag.cell c0
  have C1 := Lag.cell c1
  have HHH := Lib.hid hh1
  clear b0 b1 b2 c0 c1 r0 r1 r2 fr g20 g21 g22 hh1 HRS
  refine wp_region_lag (by kernel_rfl) (by kernel_rfl) ?_
  repeat (go_big_quiet_step ((go_at_call 41; exact Calls.lag (rlive_val As ns cs _ (m + 1) cp Ai ni ci S P I f ns lv _ (HHH.out.belowU (Lag.h _)) (by omega) (by omega) HLV.out))))
  refine wpQuiet_nil ?_
  rintro w2 ⟨uu, hu⟩
  have hb2 : Below w1.heap.size w1 w2 := hu ▸ uu.h
  clear hu uu X0 X1 X2 C0 C1
  have B2 := HB1.out.below hb2
  have R2 := HR1.out.below hb2
  have hB1 := keep_below hb2 hB1
  have hs2 : w.heap.size + 2 ≤ w2.heap.size := Nat.le_trans HS1.out hb2.size
  have fr := R2.free
  have r0 := R2.cell 0 _ rfl
  have r1 := R2.cell 1 _ rfl
  have r2 := R2.cell 2 _ rfl
  have G := R2.put3 (.slice none 0 0) (.slice none 0 0) (.slice none 0 0)
  have g20 := G.cell 0 _ rfl
  have g21 := G.cell 1 _ rfl
  have g22 := G.cell 2 _ rfl
  have b0 := B2.cell 0 _ rfl
  have b1 := B2.cell 1 _ rfl
  have b2 := B2.cell 2 _ rfl
  clear G
  by_cases hful : q.cap ≤ (lv : Int)
  · have HR := Lib.hid (newL_cap HNB.out HN1.out (HFU.out.trans (decide_eq_true hful)))
    have e1 : decide (q.cap ≤ (lv : Int)) = true := decide_eq_true hful
    clear B2 R2
    go_wp2_with fail
    refine bodyPost_ret (v := .tuple #[locV none 0 0 none 0 0 none 0 0, .int .i64 0, .int .i64 0, .int .i64 10]) (by simp [results, Try.results27, go_sem, g20, g21, g22]) rfl ?_
    rw [HR.out]
    exact RetRN.fail hB1
  have e1 : decide (q.cap ≤ (lv : Int)) = false := decide_eq_false hful
  rw [e1]
  have HNF := Lib.hid (show ¬ fullL ⟨S, P, I⟩ = true by rw [HFU.out, e1]; decide)
  clear hful
  have hi4 : ni ≤ 4096 := by
    have := HVB.out
    unfold validL issB at this
    simp only [Bool.and_eq_true, decide_eq_true_eq] at this
    rw [HI.out] at this
    exact this.1.1
  by_cases hi : ni = 4096
  · have HR := Lib.hid (newL_full HNB.out HN1.out HNF.out (by dsimp only; rw [HI.out]; omega))
    subst hi
    clear B2 R2
    go_wp2_with fail
    refine bodyPost_ret (v := .tuple #[locV none 0 0 none 0 0 none 0 0, .int .i64 0, .int .i64 0, .int .i64 18]) (by simp [results, Try.results27, go_sem, g20, g21, g22]) rfl ?_
    rw [HR.out]
    exact RetRN.fail hB1
  have e2 : ((ni : Int) == 4096) = false := beq_false_of_ne (by omega)
  have hr := newL_ok HNB.out HN1.out HNF.out (by dsimp only; rw [HI.out]; omega)
  dsimp only at hr
  rw [HS.out, HI.out] at hr
  have HR := Lib.hid hr
  have u1 : IntKind.i64.wrap ((ni : Int) + 1) = (ni : Int) + 1 := IntWalk.i64_in _ (by omega)
  clear hr hi g20 g21 g22 fr r0 r1 r2
  go_upto_region 10 with fail
  have X0 := Lag.cell b0
  have X2 := Lag.cell b2
  clear b0 b1 b2
  refine wp_region_lag (by kernel_rfl) (by kernel_rfl) ?_
  repeat (go_big_quiet_step (fail))
  refine wpQuiet_nil ?_
  rintro w3 ⟨uu, hu⟩
  have hb3 : Below w2.heap.size w2 w3 := hu ▸ uu.h
  clear hu uu X0 X2
  have B3 := B2.below hb3
  have R3 := R2.below hb3
  have hB3 := keep_below hb3 hB1
  have hs3 : w.heap.size + 2 ≤ w3.heap.size := Nat.le_trans hs2 hb3.size
  have hI3 := (HHW.out.i.below hB3).more hB3.size
  clear B2 R2 hb2 hb3 hs2 hB1
  have own1 := own_lit0 w3 3 1 w3.heap.size w3.heap.size (Nat.le_refl _) rfl
  have rd1 := hI3.alloc (Nat.le_refl _) (.cells #[] 3)
  have b2 : (w3.alloc (.cells #[] 3)).cell? ⟨w.heap.size, 2, none⟩ = some (.slice Ai ni ci) := (B3.alloc _).cell 2 _ rfl
  have q1 : 0 + ni ≤ maxLen := by unfold maxLen; omega
  have q2 : (0 + ni) * 8 ≤ 140737488355328 := by omega
  have q3 : ni + 1 ≤ maxLen := by unfold maxLen; omega
  have q4 : (ni + 1) * 8 ≤ 140737488355328 := by omega
  go_upto_region 12 with (at_builtin; first
    | (refine wpList_appG rfl _ _ _ rfl tyIn rfl own1 rfl rd1 (inCells_one I) q1 q2 (by simp) ?_; intro v4 w4 own4 hg4; rw [Nat.zero_add, List.nil_append] at own4; have hb4 : Below w3.heap.size w3 w4 := (keep_alloc (Below.refl _ _) _).trans (below_own own1 hg4 (Nat.le_refl _) (by simp)); have hz4 := hb4.size)
    | (refine wpList_appG rfl _ _ _ rfl tyIn rfl (own4.alloc (.cells #[.int .i64 ns] 3)) rfl (Reads.freshAs w4 #[.int .i64 ns] 3 1 1 [.int .i64 ns] rfl rfl (by decide)) (by simp [Value.oneCell']) q3 q4 (by simp; omega) ?_; intro v5 w5 own5 hg5; have hb5 : Below w3.heap.size w3 w5 := (keep_alloc hb4 _).trans (below_own (own4.alloc _) hg5 (Nat.le_refl _) (by simp; omega)); obtain ⟨A5, c5, rfl, -⟩ := Reads.own own5; have B5 := B3.below hb5; have t5 := B5.cell 2 _ rfl; have f5 := B5.free))
  have T6 := B5.put2 (.slice A5 (ni + 1) c5)
  have R6 := (R3.below hb5).far (p := ⟨w.heap.size, 2, none⟩) (by show w.heap.size + 1 ≠ w.heap.size; omega) (.slice A5 (ni + 1) c5)
  have O6 := ownsRow_setCell_below own5 (a := ⟨w.heap.size, 2, none⟩) (by show w.heap.size < _; omega) (.slice A5 (ni + 1) c5)
  have hB6 := (keep_below hb5 hB3).setCell (p := ⟨w.heap.size, 2, none⟩) (by show w.heap.size ≤ w.heap.size; omega) (.slice A5 (ni + 1) c5)
  have hs6 : w.heap.size + 2 ≤ (w5.setCell ⟨w.heap.size, 2, none⟩ (.slice A5 (ni + 1) c5)).heap.size := by have := hb5.size; simp; omega
  clear t5 f5 B5 own5 hg5 hb5 b2 own1 rd1 own4 hg4 hb4 B3 R3 hB3 hI3 hz4
  obtain ⟨w6, hw6⟩ : ∃ w6, w5.setCell ⟨w.heap.size, 2, none⟩ (.slice A5 (ni + 1) c5) = w6 := ⟨_, rfl⟩
  rw [hw6] at T6 R6 O6 hB6 hs6 ⊢
  clear hw6
  have hS6 := (HHW.out.s.below hB6).more hB6.size
  have own1 := own_lit0 w6 62 3 w6.heap.size w6.heap.size (Nat.le_refl _) rfl
  have rd1 := hS6.alloc (Nat.le_refl _) (.cells #[] 62)
  have b0 : (w6.alloc (.cells #[] 62)).cell? ⟨w.heap.size, 0, none⟩ = some (.slice As ns cs) := (T6.alloc _).cell 0 _ rfl
  have HHS' := HHS.out
  have p1 : 0 + ns ≤ maxLen := by unfold maxLen; omega
  have p2 : (0 + ns) * 24 ≤ 140737488355328 := by omega
  have p3 : ns + 1 ≤ maxLen := by unfold maxLen; omega
  have p4 : (ns + 1) * 24 ≤ 140737488355328 := by omega
  clear HHS'
  go_upto_region 13 with (at_builtin; first
    | (refine wpList_appG rfl _ _ _ rfl tySl rfl own1 rfl rd1 (slCells_one S) p1 p2 (by simp) ?_; intro v4 w4 own4 hg4; rw [Nat.zero_add, List.nil_append] at own4; have hb4 : Below w6.heap.size w6 w4 := (keep_alloc (Below.refl _ _) _).trans (below_own own1 hg4 (Nat.le_refl _) (by simp)); have hz4 := hb4.size)
    | (refine wpList_appG rfl _ _ _ rfl tySl rfl (own4.alloc (.cells #[.int .i64 (ni + 1), .int .u64 (U r), .bool true] 62)) rfl (Reads.freshAs w4 #[.int .i64 (ni + 1), .int .u64 (U r), .bool true] 62 3 1 [.int .i64 (ni + 1), .int .u64 (U r), .bool true] rfl rfl (by decide)) (by simp [Value.oneCell']) p3 p4 (by simp; omega) ?_; intro v5 w7 own7 hg7; have hb7 : Below w6.heap.size w6 w7 := (keep_alloc hb4 _).trans (below_own (own4.alloc _) hg7 (Nat.le_refl _) (by simp; omega)); obtain ⟨A7, c7, rfl, -⟩ := Reads.own own7; have B7 := T6.below hb7; have t7 := B7.cell 0 _ rfl; have f7 := B7.free))
  have T8 := B7.put0 (.slice A7 (ns + 1) c7)
  have R8 := (R6.below hb7).far (p := ⟨w.heap.size, 0, none⟩) (by show w.heap.size + 1 ≠ w.heap.size; omega) (.slice A7 (ns + 1) c7)
  have O8 := ownsRow_setCell_below own7 (a := ⟨w.heap.size, 0, none⟩) (by show w.heap.size < _; omega) (.slice A7 (ns + 1) c7)
  have OI8 := ownsRow_setCell_below (own_keep O6 hb7) (a := ⟨w.heap.size, 0, none⟩) (by show w.heap.size < _; omega) (.slice A7 (ns + 1) c7)
  have hB8 := (keep_below hb7 hB6).setCell (p := ⟨w.heap.size, 0, none⟩) (by show w.heap.size ≤ w.heap.size; omega) (.slice A7 (ns + 1) c7)
  clear t7 f7 B7 own7 hg7 hb7 b0 own1 rd1 own4 hg4 hb4 T6 R6 hB6 hS6 hz4 O6
  obtain ⟨w8, hw8⟩ : ∃ w8, w7.setCell ⟨w.heap.size, 0, none⟩ (.slice A7 (ns + 1) c7) = w8 := ⟨_, rfl⟩
  rw [hw8] at T8 R8 O8 OI8 hB8 ⊢
  clear hw8
  have a0 := T8.cell 0 _ rfl
  have a1 := T8.cell 1 _ rfl
  have a2 := T8.cell 2 _ rfl
  have r0 := R8.cell 0 _ rfl
  have r1 := R8.cell 1 _ rfl
  have r2 := R8.cell 2 _ rfl
  have fr := R8.free
  have G := R8.put3 (.slice A7 (ns + 1) c7) (.slice (some ⟨b, off, none⟩) (m + 1) cp) (.slice A5 (ni + 1) c5)
  have g0 := G.cell 0 _ rfl
  have g1 := G.cell 1 _ rfl
  have g2 := G.cell 2 _ rfl
  have hBF := keep_set3 hB8 (.slice A7 (ns + 1) c7) (.slice (some ⟨b, off, none⟩) (m + 1) cp) (.slice A5 (ni + 1) c5)
  have own9 := own_put3 O8 (g := w.heap.size + 1) (by omega) (.slice A7 (ns + 1) c7) (.slice (some ⟨b, off, none⟩) (m + 1) cp) (.slice A5 (ni + 1) c5)
  have ownI9 := own_put3 OI8 (g := w.heap.size + 1) (by omega) (.slice A7 (ns + 1) c7) (.slice (some ⟨b, off, none⟩) (m + 1) cp) (.slice A5 (ni + 1) c5)
  have hfl : S.flatMap slCells ++ [.int .i64 (ni + 1), .int .u64 (U r), .bool true] = (S ++ [(⟨ni + 1, r, true⟩ : Sl)]).flatMap slCells := by rw [List.flatMap_append]; rfl
  have hfi : I.flatMap intCells ++ [.int .i64 ns] = (I ++ [(ns : Int)]).flatMap intCells := by rw [List.flatMap_append]; rfl
  rw [hfl] at own9
  rw [hfi] at ownI9
  have HO := Lib.hid (LRd.mk (reads_own own9) ((HHW.out.p.below hBF).more hBF.size) (reads_own ownI9))
  have HBF := Lib.hid hBF
  clear G R8 T8 O8 OI8 own9 ownI9 hB8 hBF hfl hfi
  go_wp2_with fail
  refine bodyPost_ret (v := .tuple #[locV A7 (ns + 1) c7 (some ⟨b, off, none⟩) (m + 1) cp A5 (ni + 1) c5, .int .i64 ns, .int .i64 (ni + 1), .int .i64 0]) (by simp [results, Try.results27, go_sem, g0, g1, g2]) rfl ?_
  exact RetRN.mk' HR.out HO.out HBF.out
end Go.Proofs.Ytmcdhpbkhchpeaa

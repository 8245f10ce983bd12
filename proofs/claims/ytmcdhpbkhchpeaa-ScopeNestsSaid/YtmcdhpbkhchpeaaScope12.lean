/- The contract of scope.Delete. -/
import Derived.Test.YtmcdhpbkhchpeaaScopeAwake
import Derived.Deep.RegionLaw
namespace Go.Proofs.Ytmcdhpbkhchpeaa
open Go.ChangeShapes Go.WideShapes Go.RowKit Words

theorem set_flatS {α : Type} (f : α → List Value) (s : Nat) (hs : ∀ a, (f a).length = s) (l : List α) (k j : Nat) (u : Value) (a a' : α) (hk : l[k]? = some a) (hj : j < s) (ha : f a' = (f a).set j u) :
    (l.flatMap f).set (k * s + j) u = (l.set k a').flatMap f := by
  induction l generalizing k with
  | nil => simp at hk
  | cons b r ih =>
    cases k with
    | zero =>
      simp at hk
      subst hk
      rw [List.set_cons_zero, List.flatMap_cons, List.flatMap_cons, Nat.zero_mul, Nat.zero_add, List.set_append_left _ _ (by rw [hs]; exact hj), ha]
    | succ k =>
      simp at hk
      rw [List.set_cons_succ, List.flatMap_cons, List.flatMap_cons, List.set_append_right _ _ (by rw [hs, Nat.succ_mul]; omega), hs, ← ih k hk]
      congr 2
      rw [Nat.succ_mul]; omega
def delL (x : Lc) (i t : Int) : Lc × Int := if (getL x i t).2 = 0 then (⟨x.s.set i.toNat ⟨t, 0#64, false⟩, x.p, x.i⟩, 0) else (Lc.nil, (getL x i t).2)
theorem delL_ok {x : Lc} {i t : Int} (h : (getL x i t).2 = 0) : delL x i t = (⟨x.s.set i.toNat ⟨t, 0#64, false⟩, x.p, x.i⟩, 0) := by unfold delL; rw [if_pos h]
theorem delL_no {x : Lc} {i t : Int} {er : Int} (he : (getL x i t).2 = er) (h : er ≠ 0) : delL x i t = (Lc.nil, er) := by unfold delL; rw [he, if_neg h]
theorem getL_ok {x : Lc} {i t : Int} (h : (getL x i t).2 = 0) : ∃ (k : Nat) (s : Sl), i = k ∧ x.s[k]? = some s ∧ s.stamp = t ∧ s.live = true ∧ getL x i t = (s.ref, 0) ∧ x.valid = true ∧ 1 ≤ t ∧ x.i[(t - 1).toNat]? = some i := by
  have h0 := h
  unfold getL at h
  split at h
  · cases h
  · rename_i hv
    split at h
    · cases h
    · rename_i hf
      cases hs : x.s[i.toNat]? with
      | none => rw [hs] at h; cases h
      | some s =>
        rw [hs] at h
        dsimp only at h
        split at h
        · cases h
        · rename_i hst
          split at h
          · cases h
          · rename_i hl
            have hv' : x.valid = true := by simpa using hv
            have hge : ¬ x.i[(t - 1).toNat]? ≠ some i := fun e => hf (Or.inr (Or.inr e))
            have hge' : x.i[(t - 1).toNat]? = some i := Decidable.not_not.1 hge
            have hi := valid_iss hv' i (List.mem_of_getElem? hge')
            refine ⟨i.toNat, s, by omega, hs, Decidable.not_not.1 hst, by simpa using hl, ?_, hv', by have := fun e => hf (Or.inl e); omega, hge'⟩
            rw [getL_at hv' hf hs, if_neg hst, if_neg hl]

theorem RetLE.mk' {w w' : World} {r : Lc × Int} {S : List Sl} {P : List Sc} {I : List Int} {er : Int} {A1 A2 A3 : Option Addr} {ns c1 np c2 ni c3 : Nat} (hr : r = (⟨S, P, I⟩, er)) (hs : S.length = ns) (hp : P.length = np) (hi : I.length = ni)
    (hO : LOwn w' w.heap.size A1 ns c1 A2 np c2 A3 ni c3 S P I) (hB : Below w.heap.size w w') :
    RetLE w r (.returned (.tuple #[locV A1 ns c1 A2 np c2 A3 ni c3, .int .i64 er])) w' := by
  subst hs hp hi
  rw [hr]
  exact ⟨A1, c1, A2, c2, A3, c3, rfl, hO, hB⟩

set_option linter.unusedSimpArgs false in
set_option maxRecDepth 100000 in
set_option maxHeartbeats 4000000 in
theorem delete_any (As : Option Addr) (ns cs : Nat) (Ap : Option Addr) (np cp : Nat) (Ai : Option Addr) (ni ci : Nat) (S : List Sl) (P : List Sc) (I : List Int) (i t : Int) (w : World) (h : LRd w As ns cs Ap np cp Ai ni ci S P I)
    (hs : ns ≤ 1000000) (hp : np ≤ 1000000) (hi : ni ≤ 1000000) :
    Calls Try.prog 12 #[locV As ns cs Ap np cp Ai ni ci, .int .i64 i, .int .i64 t] w (RetLE w (delL ⟨S, P, I⟩ i t)) := by
  obtain ⟨hS, hP, hI⟩ := h.lens
  have hB : Below w.heap.size w ((w.alloc (.cells #[.slice As ns cs, .slice Ap np cp, .slice Ai ni ci] 26)).alloc (.cells #[.slice none 0 0, .slice none 0 0, .slice none 0 0] 26)) := keep_alloc (loc_alloc w _ _ _ _) _
  have B0 := (Blk.new w #[.slice As ns cs, .slice Ap np cp, .slice Ai ni ci] 26).alloc (.cells #[.slice none 0 0, .slice none 0 0, .slice none 0 0] 26)
  have R0 := Blk.newAt (w.alloc (.cells #[.slice As ns cs, .slice Ap np cp, .slice Ai ni ci] 26)) #[.slice none 0 0, .slice none 0 0, .slice none 0 0] 26 (w.heap.size + 1) (by simp)
  have hh := h.belowU hB
  have HS := Lib.hid hS
  have HP := Lib.hid hP
  have HI := Lib.hid hI
  have hsz : ((w.alloc (.cells #[.slice As ns cs, .slice Ap np cp, .slice Ai ni ci] 26)).alloc (.cells #[.slice none 0 0, .slice none 0 0, .slice none 0 0] 26)).heap.size = w.heap.size + 2 := by simp
  have HSZ := Lib.hid hsz
  have HHS := Lib.hid hs
  have HHP := Lib.hid hp
  have HHI := Lib.hid hi
  clear h hS hP hI hsz hs hp hi
  obtain ⟨r, hr⟩ : ∃ r, getL ⟨S, P, I⟩ i t = r := ⟨_, rfl⟩
  obtain ⟨v, er⟩ := r
  have HG := Lib.hid hr
  by_cases her : er = 0
  · subst her
    obtain ⟨k, x, rfl, hx, hxt, hxl, -, -⟩ := getL_ok (by rw [hr])
    dsimp only at hx
    have HD : Hid (delL ⟨S, P, I⟩ (k : Int) t = (⟨S.set k ⟨t, 0#64, false⟩, P, I⟩, 0)) := Lib.hid (delL_ok (x := ⟨S, P, I⟩) (i := (k : Int)) (t := t) (by rw [hr]))
    have hkn : k < ns := by rw [← HS.out]; exact (List.getElem?_eq_some_iff.1 hx).1
    obtain ⟨st, rf, lv⟩ := x
    dsimp only at hxt hxl
    subst hxt hxl
    have hset : ((S.flatMap slCells).set (k * 3 + 1) (.int .u64 0)).set (k * 3 + 2) (.bool false) = (S.set k ⟨st, 0#64, false⟩).flatMap slCells := by
      rw [set_flatS slCells 3 slCells_len S k 1 (.int .u64 0) ⟨st, rf, true⟩ ⟨st, 0#64, true⟩ hx (by omega) rfl]
      rw [set_flatS slCells 3 slCells_len _ k 2 (.bool false) ⟨st, 0#64, true⟩ ⟨st, 0#64, false⟩ (List.getElem?_set_self (List.getElem?_eq_some_iff.1 hx).1) (by omega) rfl, List.set_set]
    have HSET := Lib.hid hset
    have hc1 : (S.flatMap slCells)[k * 3 + 1]? = some (.int .u64 (U rf)) := by rw [flat_at slCells 3 slCells_len S k 1 (by omega) _ hx]; rfl
    have hc2 : (S.flatMap slCells)[k * 3 + 2]? = some (.bool true) := by rw [flat_at slCells 3 slCells_len S k 2 (by omega) _ hx]; rfl
    have HC1 := Lib.hid hc1
    have HC2 := Lib.hid hc2
    have k0 : (0 : Int) ≤ (k : Int) := by omega
    have k1 : (k : Int) < (ns : Int) := by omega
    clear hset hr hx hc1 hc2
    go_enter Try.func12, Try.ntmps12
    go_wp2_with fail
    refine (get_any As ns cs Ap np cp Ai ni ci S P I k st _ hh).mono ?_
    rw [HG.out]
    rintro e w1 ⟨rfl, hb1⟩
    unfold retG
    have B1 := B0.below hb1
    have R1 := R0.below hb1
    have hh1 := hh.belowU hb1
    have hB1 := keep_below hb1 hB
    have hs1 : w.heap.size + 2 ≤ w1.heap.size := by have := HSZ.out; have := hb1.size; omega
    have b0 := B1.cell 0 _ rfl
    have b1 := B1.cell 1 _ rfl
    have b2 := B1.cell 2 _ rfl
    clear B0 R0 hh hB hb1
    go_wp2_with fail
    refine (clone_any As ns cs Ap np cp Ai ni ci S P I _ hh1 HHS.out HHP.out HHI.out).mono ?_
    rintro e w2 ⟨A1, c1, A2, c2, A3, c3, rfl, hown, hb2⟩
    rcases hown.s.2 with ⟨-, hz⟩ | ⟨gb, cap, cu, hgb, hbg, -, -, -, -, -⟩
    · exfalso; omega
    simp only [Value.slice.injEq] at hgb
    obtain ⟨rfl, -, rfl⟩ := hgb
    have B2 := B1.below hb2
    have R2 := R1.below hb2
    have hs2 : w1.heap.size ≤ w2.heap.size := hb2.size
    have hB2 := keep_below hb2 hB1
    clear b0 b1 b2
    have b0 := B2.cell 0 _ rfl
    have b1 := B2.cell 1 _ rfl
    have b2 := B2.cell 2 _ rfl
    have fb := B2.free
    have T3 := B2.put3 (.slice (some ⟨gb, 0, none⟩) ns c1) (.slice A2 np c2) (.slice A3 ni c3)
    have R3 := ((R2.far (p := ⟨w.heap.size, 0, none⟩) (by show w.heap.size + 1 ≠ w.heap.size; omega) (.slice (some ⟨gb, 0, none⟩) ns c1)).far (p := ⟨w.heap.size, 1, none⟩) (by show w.heap.size + 1 ≠ w.heap.size; omega) (.slice A2 np c2)).far (p := ⟨w.heap.size, 2, none⟩) (by show w.heap.size + 1 ≠ w.heap.size; omega) (.slice A3 ni c3)
    have hown3 := ((hown.far (a := ⟨w.heap.size, 0, none⟩) (by show w.heap.size < _; omega) (.slice (some ⟨gb, 0, none⟩) ns c1)).far (a := ⟨w.heap.size, 1, none⟩) (by show w.heap.size < _; omega) (.slice A2 np c2)).far (a := ⟨w.heap.size, 2, none⟩) (by show w.heap.size < _; omega) (.slice A3 ni c3)
    have hB3 : Below w.heap.size w (((w2.setCell ⟨w.heap.size, 0, none⟩ (.slice (some ⟨gb, 0, none⟩) ns c1)).setCell ⟨w.heap.size, 1, none⟩ (.slice A2 np c2)).setCell ⟨w.heap.size, 2, none⟩ (.slice A3 ni c3)) :=
      ((hB2.setCell (by show w.heap.size ≤ w.heap.size; omega) _).setCell (by show w.heap.size ≤ w.heap.size; omega) _).setCell (by show w.heap.size ≤ w.heap.size; omega) _
    obtain ⟨w3, hw3⟩ : ∃ w3, ((w2.setCell ⟨w.heap.size, 0, none⟩ (.slice (some ⟨gb, 0, none⟩) ns c1)).setCell ⟨w.heap.size, 1, none⟩ (.slice A2 np c2)).setCell ⟨w.heap.size, 2, none⟩ (.slice A3 ni c3) = w3 := ⟨_, rfl⟩
    rw [hw3] at T3 R3 hown3 hB3
    clear B1 R1 hh1 hB1 hown B2 R2 hb2 hB2
    have hgs : gb ≠ w.heap.size := by omega
    have hgs1 : gb ≠ w.heap.size + 1 := by omega
    have t0 : w3.cell? ⟨w.heap.size, 0, none⟩ = some (.slice (some ⟨gb, 0, none⟩) ns c1) := T3.cell 0 _ rfl
    have x1 := (hown3.s.cellAt (k * 3 + 1) (by omega)).trans HC1.out
    have x2 := (hown3.s.cellAt (k * 3 + 2) (by omega)).trans HC2.out
    have f1 := hown3.s.frozenAt (k * 3 + 1)
    have f2 := hown3.s.frozenAt (k * 3 + 2)
    have own4s := ((hown3.s.stored (k * 3 + 1) (.int .u64 0)).1.stored (k * 3 + 2) (.bool false)).1
    rw [HSET.out] at own4s
    have own41 := (hown3.s.stored (k * 3 + 1) (.int .u64 0)).1
    have own4p := own_store (own_store hown3.p hown3.s (by decide) (k * 3 + 1) (.int .u64 0)) own41 (by decide) (k * 3 + 2) (.bool false)
    have own4i := own_store (own_store hown3.i hown3.s (by decide) (k * 3 + 1) (.int .u64 0)) own41 (by decide) (k * 3 + 2) (.bool false)
    have T4 := (T3.far (p := ⟨gb, k * 3 + 1, none⟩) (fun e => hgs e.symm) (.int .u64 0)).far (p := ⟨gb, k * 3 + 2, none⟩) (fun e => hgs e.symm) (.bool false)
    have R4 := (R3.far (p := ⟨gb, k * 3 + 1, none⟩) (fun e => hgs1 e.symm) (.int .u64 0)).far (p := ⟨gb, k * 3 + 2, none⟩) (fun e => hgs1 e.symm) (.bool false)
    have hB4 := (hB3.setCell (p := ⟨gb, k * 3 + 1, none⟩) (by show w.heap.size ≤ gb; omega) (.int .u64 0)).setCell (p := ⟨gb, k * 3 + 2, none⟩) (by show w.heap.size ≤ gb; omega) (.bool false)
    have HO4 := Lib.hid (show LOwn _ w1.heap.size (some ⟨gb, 0, none⟩) ns c1 A2 np c2 A3 ni c3 (S.set k ⟨st, 0#64, false⟩) P I from ⟨own4s, own4p, own4i⟩)
    have HT4 := Lib.hid T4
    have HR4 := Lib.hid R4
    have HB4 := Lib.hid hB4
    have HS1 := Lib.hid hs1
    clear own4s own41 own4p own4i T4 R4 hB4 hown3 hB3 T3 R3 hs1
    go_wp2_with fail
    clear hw3 b0 b1 b2 fb
    go_region_law (fail)
    all_goals
      have T5 := HT4.out.drew
      have R5 := HR4.out.drew
      have B5 := HB4.out.drew
      have O5 := HO4.out.below (Below.refl _ _).drew
      have hlt := HS1.out
      clear x1 x2 f1 f2 t0 HT4 HR4 HB4 HO4 HC1 HC2 HSET HSZ HG HS1
      generalize ((w3.setCell ⟨gb, k * 3 + 1, none⟩ (.int .u64 0)).setCell ⟨gb, k * 3 + 2, none⟩ (.bool false)).drew = w5 at T5 R5 B5 O5 ⊢
      have a0 : w5.cell? ⟨w.heap.size, 0, none⟩ = some (.slice (some ⟨gb, 0, none⟩) ns c1) := T5.cell 0 _ rfl
      have a1 : w5.cell? ⟨w.heap.size, 1, none⟩ = some (.slice A2 np c2) := T5.cell 1 _ rfl
      have a2 : w5.cell? ⟨w.heap.size, 2, none⟩ = some (.slice A3 ni c3) := T5.cell 2 _ rfl
      have r0 := R5.cell 0 _ rfl
      have r1 := R5.cell 1 _ rfl
      have r2 := R5.cell 2 _ rfl
      have fr := R5.free
      have G := R5.put3 (.slice (some ⟨gb, 0, none⟩) ns c1) (.slice A2 np c2) (.slice A3 ni c3)
      have g0 := G.cell 0 _ rfl
      have g1 := G.cell 1 _ rfl
      have g2 := G.cell 2 _ rfl
      have HO := Lib.hid (((((O5.far (a := ⟨w.heap.size + 1, 0, none⟩) (by show w.heap.size + 1 < _; omega) (.slice (some ⟨gb, 0, none⟩) ns c1)).far (a := ⟨w.heap.size + 1, 1, none⟩) (by show w.heap.size + 1 < _; omega) (.slice A2 np c2)).far (a := ⟨w.heap.size + 1, 2, none⟩) (by show w.heap.size + 1 < _; omega) (.slice A3 ni c3))).rebase (base' := w.heap.size) (by omega))
      have HBF := Lib.hid (keep_set3 B5 (.slice (some ⟨gb, 0, none⟩) ns c1) (.slice A2 np c2) (.slice A3 ni c3))
      clear G R5 T5 B5 O5
      go_wp2_with fail
      refine bodyPost_ret (v := .tuple #[locV (some ⟨gb, 0, none⟩) ns c1 A2 np c2 A3 ni c3, .int .i64 0]) (by simp [results, Try.results12, go_sem, g0, g1, g2]) rfl ?_
      exact RetLE.mk' HD.out (by rw [List.length_set]; exact HS.out) HP.out HI.out HO.out HBF.out
  · have HD := Lib.hid (delL_no (x := ⟨S, P, I⟩) (i := i) (t := t) (by rw [hr]) her)
    have hne : (er != 0) = true := by simp [her]
    clear hr her
    go_enter Try.func12, Try.ntmps12
    go_wp2_with fail
    refine (get_any As ns cs Ap np cp Ai ni ci S P I i t _ hh).mono ?_
    rw [HG.out]
    rintro e w1 ⟨rfl, hb1⟩
    unfold retG
    have R1 := R0.below hb1
    have hB1 := keep_below hb1 hB
    have fr := R1.free
    have r0 := R1.cell 0 _ rfl
    have r1 := R1.cell 1 _ rfl
    have r2 := R1.cell 2 _ rfl
    have G := R1.put3 (.slice none 0 0) (.slice none 0 0) (.slice none 0 0)
    have g0 := G.cell 0 _ rfl
    have g1 := G.cell 1 _ rfl
    have g2 := G.cell 2 _ rfl
    clear B0 R0 hh hB hb1 G R1
    go_wp2_with fail
    refine bodyPost_ret (v := .tuple #[locV none 0 0 none 0 0 none 0 0, .int .i64 er]) (by simp [results, Try.results12, go_sem, g0, g1, g2]) rfl ?_
    rw [HD.out]
    exact RetLE.fail hB1
end Go.Proofs.Ytmcdhpbkhchpeaa

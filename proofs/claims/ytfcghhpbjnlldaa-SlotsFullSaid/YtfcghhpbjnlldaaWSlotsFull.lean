/- The walk of SlotsFull. -/
import Derived.Test.YtfcghhpbjnlldaaSlotsBox
namespace Go.Proofs.Ytfcghhpbjnlldaa
open Go.ChangeShapes Go.WideShapes Go.RowKit Words

/-- the table after k handles -/
def fullL (k : Nat) : List Ent := (List.range k).map fun j => ⟨1, BitVec.ofNat 64 j, true⟩
theorem fullL_len (k : Nat) : (fullL k).length = k := by simp [fullL]
theorem fullL_succ (k : Nat) : fullL (k + 1) = fullL k ++ [⟨1, BitVec.ofNat 64 k, true⟩] := by simp [fullL, List.range_succ]
theorem firstUse_none (l : List Ent) (h : ∀ x ∈ l, useE x = false) : firstUse l = l.length := by
  induction l with
  | nil => rfl
  | cons x r ih =>
    rw [firstUse, if_neg (by rw [h x List.mem_cons_self]; decide), ih (fun y hy => h y (List.mem_cons_of_mem _ hy))]
    rfl
theorem fullL_live (k : Nat) : ∀ x ∈ fullL k, x.live = true ∧ x.gen = 1 := by
  intro x hx
  simp only [fullL, List.mem_map, List.mem_range] at hx
  obtain ⟨j, _, rfl⟩ := hx
  exact ⟨rfl, rfl⟩
theorem live_ok {x : Ent} (h : x.live = true ∧ x.gen = 1) : badE x = false := (badE_no x).2 ⟨by omega, by omega, fun e => by rw [h.1] at e; cases e⟩
theorem live_use {x : Ent} (h : x.live = true) : useE x = false := by unfold useE; rw [h]; rfl
theorem fullL_valid (k : Nat) (hk : k ≤ 64) : validT (fullL k) = true := (valid_iff _).2 ⟨by rw [fullL_len]; exact hk, fun x hx => live_ok (fullL_live k x hx)⟩
theorem fullL_new (k : Nat) (hk : k < 64) : newW (fullL k) (BitVec.ofNat 64 k) = (fullL (k + 1), (k : Int), 1, 0) := by
  have hf := firstUse_none (fullL k) (fun x hx => live_use (fullL_live k x hx).1)
  have := newW_add (BitVec.ofNat 64 k) (fullL_valid k (by omega)) (by omega) (by rw [fullL_len]; exact hk)
  rw [this, fullL_len, ← fullL_succ]
theorem fullL_full (r : BitVec 64) : newW (fullL 64) r = ([], 0, 0, 18) := by
  have hf := firstUse_none (fullL 64) (fun x hx => live_use (fullL_live 64 x hx).1)
  exact newW_full r (fullL_valid 64 (by omega)) (by omega) (by rw [fullL_len]; omega)
theorem retired_full (k : Nat) (r : BitVec 64) : newW ((fullL 64).set k ⟨4294967295, 0#64, false⟩) r = ([], 0, 0, 18) := by
  have hf := firstUse_none ((fullL 64).set k ⟨4294967295, 0#64, false⟩) (fun x hx => by
    rcases List.mem_or_eq_of_mem_set hx with hx | rfl
    · exact live_use (fullL_live 64 x hx).1
    · rfl)
  exact newW_full r (valid_set (fullL_valid 64 (by omega)) (by decide)) (by omega) (by rw [List.length_set, fullL_len]; omega)
theorem firstUse_eq {l : List Ent} {k : Nat} {x : Ent} (hx : l[k]? = some x) (hu : useE x = true) (h : ∀ j y, j < k → l[j]? = some y → useE y = false) : firstUse l = k := by
  have h1 := firstUse_lt l k x hx hu
  have hk := (List.getElem?_eq_some_iff.1 hx).1
  obtain ⟨y, hy, huy⟩ := firstUse_at l (by omega)
  by_cases he : firstUse l = k
  · exact he
  · have := h _ y (by omega) hy
    rw [huy] at this; cases this
theorem last_new (k : Nat) (hk : k < 64) (r : BitVec 64) : ∃ L, newW ((fullL 64).set k ⟨4294967294, 0#64, false⟩) r = (L, (k : Int), 4294967295, 0) := by
  have hkl : k < (fullL 64).length := by rw [fullL_len]; exact hk
  have hf : firstUse ((fullL 64).set k ⟨4294967294, 0#64, false⟩) = k := firstUse_eq (List.getElem?_set_self hkl) (by decide) (fun j y hj hy => by
    rw [List.getElem?_set_ne (by omega)] at hy
    exact live_use (fullL_live 64 y (List.mem_of_getElem? hy)).1)
  have := newW_use r (valid_set (k := k) (x := ⟨4294967294, 0#64, false⟩) (fullL_valid 64 (by omega)) (by decide)) (by rw [hf]; exact List.getElem?_set_self hkl)
  rw [hf] at this
  exact ⟨_, this⟩
theorem tmod_range (a : Int) (b : Int) (hb : 0 < b) : -b < a.tmod b ∧ a.tmod b < b := by
  have h1 := Int.tmod_lt_of_pos a hb
  have h2 := Int.lt_tmod_of_pos a hb
  exact ⟨h2, h1⟩

set_option maxRecDepth 100000 in
set_option maxHeartbeats 2000000 in
theorem walkSlotsFull {H : Type} {enc : TypeId × Value → H} (W : World) (base : Nat) {v0 : Value} {d0 : DataW H} {p0 : List MemPlace}
    (o0 : Value.okWide Try.prog W .any base 3 v0) (h0 : DataW.Trod enc Try.prog W 0 (fun _ => true) true 3 v0 d0 p0) :
    Calls Try.prog 3 #[v0] W fun e w' => e = .returned (.bool true) ∧ Below W.heap.size W w' := by
  obtain ⟨z, rfl, hz0, hz1⟩ := open_i64 Try.underlying3 o0 h0
  clear h0 o0
  obtain ⟨hq0, hq1⟩ := tmod_range z 64 (by omega)
  obtain ⟨q, hq⟩ : ∃ q, z.tmod 64 = q := ⟨_, rfl⟩
  rw [hq] at hq0 hq1
  obtain ⟨k, hk, hk64⟩ : ∃ k : Nat, (q + 64) % 64 = k ∧ k < 64 := ⟨((q + 64) % 64).toNat, by omega, by omega⟩
  have bT := Box.mkNew (w := W) (A := none) (n := 0) (c := 0) (l := []) Reads.nil
  have hB : Below W.heap.size W (W.alloc (.cells #[.slice none 0 0] 24)) := tab_alloc W none 0 0
  have HQ := Lib.hid hq
  have HK := Lib.hid hk
  clear hq hk
  go_enter Try.func3, Try.ntmps3
  go_wp2_with fail
  go_loopw [4] (fun x wq => ∃ (j : Nat) (A : Option Addr) (c : Nat), j ≤ 64 ∧ x = .int .i64 j ∧ Box wq W.heap.size A j c (fullL j) ∧ Below W.heap.size W wq ∧ W.heap.size < wq.heap.size) (fun x _ => 64 - (intOf x).toNat)
  case atStart => exact ⟨0, none, 0, by omega, rfl, bT, hB, by simp⟩
  case round =>
    obtain ⟨j, A, c, hj, rfl, bT, hB, hlt0⟩ := hrel
    have qT := bT.cell
    by_cases hlt : j < 64
    · have hnew := new_any A j c (fullL j) (BitVec.ofNat 64 j) wr bT.reads (by omega)
      rw [U_ofNat _ (by omega), fullL_new j hlt] at hnew
      have HNW := Lib.hid hnew
      have hd : decide ((j : Int) < 64) = true := by simp; omega
      have hw1 : IntKind.u64.wrap (j : Int) = (j : Int) := IntWalk.u64_in _ (by omega)
      clear hnew
      go_wp2_with fail
      refine HNW.out.mono ?_
      rintro e w1 ⟨A1, c1, rfl, hr1, hb⟩
      simp only [fullL_len] at hr1 ⊢
      have bT1 := (bT.below hb).alloc (.cells #[.slice A1 (j + 1) c1] 24)
      have bN := Box.mkNew hr1
      have hB1 := keep_alloc (keep_below hb hB) (.cells #[.slice A1 (j + 1) c1] 24)
      have hsz := hb.size
      obtain ⟨wn, hwn⟩ : ∃ wn, w1.alloc (.cells #[.slice A1 (j + 1) c1] 24) = wn := ⟨_, rfl⟩
      have hszn : wn.heap.size = w1.heap.size + 1 := by rw [← hwn]; simp
      rw [hwn] at bT1 bN hB1
      have qT1 := bT1.cell
      have fT1 := bT1.free
      have qN := bN.cell
      have bT2 := bT1.put bN.reads
      have hB2 := hB1.setCell (p := ⟨W.heap.size, 0, none⟩) (by show W.heap.size ≤ W.heap.size; omega) (.slice A1 (j + 1) c1)
      have hjj : ((j : Int) != (j : Int)) = false := by simp
      clear hb qT
      go_wp2_with fail
      go_roundw
      case rel => exact ⟨j + 1, A1, c1, by omega, by go_num, bT2, hB2, by simp; omega⟩
      case measure => simp [intOf]; omega
    · obtain rfl : j = 64 := by omega
      have hd : decide ((64 : Int) < 64) = false := by decide
      have hnew := new_any A 64 c (fullL 64) 1#64 wr bT.reads (by omega)
      rw [fullL_full] at hnew
      have HNW := Lib.hid hnew
      clear hnew hlt hj
      go_wp2_with fail
      refine HNW.out.mono ?_
      rintro e w1 ⟨A1, c1, rfl, hr1, hb⟩
      dsimp only [List.length_nil] at hr1 ⊢
      have bT1 := (bT.below hb).alloc (.cells #[.slice A1 0 c1] 24)
      have hB1 := keep_alloc (keep_below hb hB) (.cells #[.slice A1 0 c1] 24)
      have hsz1 := hb.size
      have qT1 := bT1.cell
      have hQ := HQ.out
      have hK := HK.out
      obtain ⟨w1', hw1'⟩ : ∃ w1', w1.alloc (.cells #[.slice A1 0 c1] 24) = w1' := ⟨_, rfl⟩
      have hsz1' : w1.heap.size < w1'.heap.size := by rw [← hw1']; simp
      rw [hw1'] at bT1 hB1 qT1
      have hown0 := World.ownsRow_lit (e := 30) (size := 3) (base := w1'.heap.size) w1' #[] 0 (Nat.le_refl _) (by decide) rfl
      have qT1a : (w1'.alloc (.cells #[] 30)).cell? ⟨W.heap.size, 0, none⟩ = some (.slice A 64 c) := (bT1.blk.alloc _).cell 0 _ rfl
      have hone := entCells_one (fullL 64)
      have q1 : 0 + 64 ≤ maxLen := by unfold maxLen; omega
      have q2 : (0 + 64) * 24 ≤ 140737488355328 := by omega
      clear hb qT bT hB hr1
      go_wp2_with (at_builtin; go_loud (refine wpList_app rfl _ _ _ rfl tyEnts rfl hown0 rfl (bT1.reads.alloc (Nat.le_refl _) _) hone q1 q2 (by simp) ?_; intro v' w2 hown hb2; rw [Nat.zero_add, List.nil_append] at hown; rcases hown.2 with ⟨-, hz⟩ | ⟨gb, cap, cu, rfl, hbg, -, -, -, -, -⟩; (exfalso; omega); have hb2' : Below w1'.heap.size w1' w2 := (keep_alloc (Below.refl _ _) _).trans hb2; have T2 := bT1.blk.below hb2'; have t2 : w2.cell? ⟨W.heap.size, 0, none⟩ = some (.slice A 64 c) := T2.cell 0 _ rfl; have ft2 := T2.free; have hB2 := keep_below hb2' hB1; have hne : gb ≠ W.heap.size := (by omega); have kl : k < (fullL 64).length := (by rw [fullL_len]; exact hk64); have f0 := hown.frozenAt (k * 3); have f1 := hown.frozenAt (k * 3 + 1); have f2 := hown.frozenAt (k * 3 + 2); have hcl : ((fullL 64).flatMap entCells).length = 192 := (by rw [flat_len _ 3 entCells_len, fullL_len]); obtain ⟨u0, hu0⟩ := get_some ((fullL 64).flatMap entCells) (k * 3) (by rw [hcl]; omega); obtain ⟨u1, hu1⟩ := get_some ((fullL 64).flatMap entCells) (k * 3 + 1) (by rw [hcl]; omega); obtain ⟨u2', hu2⟩ := get_some ((fullL 64).flatMap entCells) (k * 3 + 2) (by rw [hcl]; omega); have c0 := (hown.cellAt (k * 3) (by omega)).trans hu0; have c1' := (hown.cellAt (k * 3 + 1) (by omega)).trans hu1; have c2 := (hown.cellAt (k * 3 + 2) (by omega)).trans hu2; have hown1 := ownsRow_setCell_below hown (a := ⟨W.heap.size, 0, none⟩) (by show W.heap.size < _; omega) (.slice (some ⟨gb, 0, none⟩) 64 cap); have hown2 := (((hown1.stored (k * 3) (.int .i64 4294967295)).1.stored (k * 3 + 1) (.int .u64 (U 0#64))).1.stored (k * 3 + 2) (.bool false)).1; have hs3 := set3 (fullL 64) k ⟨4294967295, 0#64, false⟩ kl; rw [hs3] at hown2; have HOW := Lib.hid hown2; have k0 : (0 : Int) ≤ (k : Int) := (by omega); have k1 : (k : Int) < 64 := (by omega)))
      have hBW := (((hB2.setCell (p := ⟨W.heap.size, 0, none⟩) (by show W.heap.size ≤ W.heap.size; omega) (.slice (some ⟨gb, 0, none⟩) 64 cap)).setCell (p := ⟨gb, k * 3, none⟩) (by show W.heap.size ≤ gb; omega) (.int .i64 4294967295)).setCell (p := ⟨gb, k * 3 + 1, none⟩) (by show W.heap.size ≤ gb; omega) (.int .u64 0)).setCell (p := ⟨gb, k * 3 + 2, none⟩) (by show W.heap.size ≤ gb; omega) (.bool false)
      have TW := (((T2.set 0 (.slice (some ⟨gb, 0, none⟩) 64 cap)).far (p := ⟨gb, k * 3, none⟩) hne.symm (.int .i64 4294967295)).far (p := ⟨gb, k * 3 + 1, none⟩) hne.symm (.int .u64 0)).far (p := ⟨gb, k * 3 + 2, none⟩) hne.symm (.bool false)
      obtain ⟨w3, hw3⟩ : ∃ w3, ((((w2.setCell ⟨W.heap.size, 0, none⟩ (.slice (some ⟨gb, 0, none⟩) 64 cap)).setCell ⟨gb, k * 3, none⟩ (.int .i64 4294967295)).setCell ⟨gb, k * 3 + 1, none⟩ (.int .u64 0)).setCell ⟨gb, k * 3 + 2, none⟩ (.bool false)) = w3 := ⟨_, rfl⟩
      have own3 : w3.ownsRow w1'.heap.size 30 3 (.slice (some ⟨gb, 0, none⟩) 64 cap) 64 (((fullL 64).set k ⟨4294967295, 0#64, false⟩).flatMap entCells) := by rw [← hw3]; exact hown2
      rw [hw3] at hBW TW ⊢
      have T3 : Blk w3 W.heap.size 24 #[.slice (some ⟨gb, 0, none⟩) 64 cap] := TW
      have hL2 : ((fullL 64).set k ⟨4294967295, 0#64, false⟩).length = 64 := by rw [List.length_set, fullL_len]
      have hg2 : ((fullL 64).set k ⟨4294967295, 0#64, false⟩)[k]? = some ⟨4294967295, 0#64, false⟩ := List.getElem?_set_self kl
      have hsf := set_flat entCells 3 entCells_len ((fullL 64).set k ⟨4294967295, 0#64, false⟩) k 0 (.int .i64 4294967294) ⟨4294967295, 0#64, false⟩ ⟨4294967294, 0#64, false⟩ hg2 (by omega) rfl
      rw [List.set_set, Nat.add_zero] at hsf
      have hfl2 : (((fullL 64).set k ⟨4294967295, 0#64, false⟩).flatMap entCells)[k * 3]? = some (.int .i64 4294967295) := flat_at entCells 3 entCells_len _ k 0 (by omega) _ hg2
      have HF2 := Lib.hid hfl2
      have HSF := Lib.hid hsf
      obtain ⟨L, hlast⟩ := last_new k hk64 1#64
      have HLS := Lib.hid hlast
      obtain ⟨Ax, cx, ex, rd3⟩ := Reads.own own3
      injection ex with ex1 ex2 ex3
      subst ex1 ex3
      have hnew := new_any (some ⟨gb, 0, none⟩) 64 cap ((fullL 64).set k ⟨4294967295, 0#64, false⟩) 1#64 w3 rd3 (by omega)
      rw [retired_full] at hnew
      have HNW := Lib.hid hnew
      clear hnew hown2 hown1 hs3 hu0 hu1 hu2 hcl hone hown0 qT1a qT1 hown f0 f1 f2 c0 c1' c2 TW hg2 hsf hfl2 hlast hw3 HOW rd3 t2 ft2
      refine HNW.out.mono ?_
      rintro e w4 ⟨A4, c4, rfl, -, hb4⟩
      dsimp only [List.length_nil]
      have hb4' := keep_alloc hb4 (.cells #[.slice A4 0 c4] 24)
      have hszb := hb4.size
      obtain ⟨w5, hw5⟩ : ∃ w5, w4.alloc (.cells #[.slice A4 0 c4] 24) = w5 := ⟨_, rfl⟩
      rw [hw5] at hb4'
      have own5 := own_keep own3 hb4'
      have T5 := T3.below hb4'
      have hB5 := keep_below hb4' hBW
      have t5 : w5.cell? ⟨W.heap.size, 0, none⟩ = some (.slice (some ⟨gb, 0, none⟩) 64 cap) := T5.cell 0 _ rfl
      have g0 := own5.frozenAt (k * 3)
      have d0 := (own5.cellAt (k * 3) (by omega)).trans HF2.out
      have own6 := (own5.stored (k * 3) (.int .i64 4294967294)).1
      rw [HSF.out] at own6
      have T6 := T5.far (p := ⟨gb, k * 3, none⟩) hne.symm (.int .i64 4294967294)
      have hB6 := hB5.setCell (p := ⟨gb, k * 3, none⟩) (by show W.heap.size ≤ gb; omega) (.int .i64 4294967294)
      obtain ⟨Ax, cx, ex, rd6⟩ := Reads.own own6
      injection ex with ex1 ex2 ex3
      subst ex1 ex3
      have hnew := new_any (some ⟨gb, 0, none⟩) 64 cap ((fullL 64).set k ⟨4294967294, 0#64, false⟩) 1#64 _ rd6 (by omega)
      rw [HLS.out] at hnew
      have HNW2 := Lib.hid hnew
      clear hnew own5 own6 own3 rd6 hb4 T3 T5
      go_wp2_with fail
      refine HNW2.out.mono ?_
      rintro e w7 ⟨A7, c7, rfl, -, hb7⟩
      have hB7 := keep_alloc (keep_below hb7 hB6) (.cells #[.slice A7 L.length c7] 24)
      dsimp only
      have hkk : ((k : Int) == (k : Int)) = true := by simp
      go_wp2_with fail
      refine (awake_any _).mono ?_
      rintro e w8 ⟨rfl, hb8⟩
      go_wp2_with fail
      go_ret
      exact ⟨rfl, keep_below hb8 hB7⟩
end Go.Proofs.Ytfcghhpbjnlldaa

/- The contracts of arena's Move and of its reference. -/
import Derived.Test.YtopdplehnknbiaaArena4
namespace Go.Proofs.Ytopdplehnknbiaa
open Go.RowKit Words

def moveW (l : List (BitVec 64)) (t f k : Int) : List (BitVec 64) × Int :=
  if k < 0 then ([], 1) else if (placeW l.length t k).2 = true ∧ (placeW l.length f k).2 = true then (wr l (placeW l.length t k).1.toNat ((l.drop (placeW l.length f k).1.toNat).take k.toNat), 0) else ([], 2)

theorem step_copy_nothing {P : Program} {ops : Array Oper} {o : Oper} {a : Act} {w : World} {K : Act → World → Prop} {Q : Exit → Act → World → Prop} {E : Prop} (hgd : o.guard = none) (d s : Operand) (dT sT : TypeId)
    (ho : o.op = .call { callee := .builtin .copy, args := #[d, s], argTypes := #[dT, sT] }) (elem : TypeId) (hu : P.underlying dT = some (.slice elem)) (hsz : (P.info? elem).map (·.size) = some 1)
    (dp sp : Option Addr) (dLen dCap sLen sCap : Nat) (hd : a.eval d = .slice dp dLen dCap) (hs : a.eval s = .slice sp sLen sCap) (hmin : Nat.min sLen dLen = 0)
    (h : K (a.put o.dst (goInt (0 : Nat))) w) :
    if Region.wanted o (yielded ops a.tmps) = true then Oper.wp P o a w K Q else E := by
  have hw : Region.wanted o (yielded ops a.tmps) = true := by simp [Region.wanted, hgd]
  rw [if_pos hw]
  have hrun := run_copy_none (P := P) w dT sT o.type elem dp sp dLen dCap sLen sCap hu hsz hmin
  unfold Oper.wp
  simp [execOp, ho, resolve, invoke, builtin, hd, hs, hrun, Result.andThen]
  exact h

theorem move_any (A : Option Addr) (n c : Nat) (l : List (BitVec 64)) (t f : BitVec 64) (m : Int) (w : World) (h : Reads w w.heap.size 1 A n c (l.flatMap wordCells)) (hn : n ≤ 1000000) :
    Calls Try.prog 19 #[.slice A n c, .int .u64 (U t), .int .u64 (U f), .int .i64 m] w (RetWs w (moveW l (U t) (U f) m)) := by
  have hlen := h.length (fun _ => rfl) (by omega)
  have hcap := h.cap
  have hle := h.le
  unfold maxLen at hcap
  by_cases hm : m < 0
  · have hr : moveW l (U t) (U f) m = ([], 1) := by unfold moveW; rw [if_pos hm]
    rw [hr]
    go_enter Try.func19, Try.ntmps19
    go_wp2_with fail
    go_ret2
    exact ⟨none, 0, rfl, Reads.nil, Below.refl _ _⟩
  · obtain ⟨m, rfl⟩ := Int.eq_ofNat_of_zero_le (Int.not_lt.1 hm)
    rcases placeW_cases n (U t) m (by omega) with ⟨i, hik, -, hp⟩ | ⟨j, hp⟩
    · simp only [Int.toNat_natCast] at hik
      rcases placeW_cases n (U f) m (by omega) with ⟨k, hkk, -, hp2⟩ | ⟨j, hp2⟩
      · simp only [Int.toNat_natCast] at hkk
        have hr : moveW l (U t) (U f) m = (wr l i ((l.drop k).take m), 0) := by unfold moveW; rw [if_neg hm, hlen, hp, hp2, if_pos ⟨rfl, rfl⟩]; rfl
        have hxl : ((l.drop k).take m).length = m := by rw [List.length_take, List.length_drop]; omega
        have hwl : (wr l i ((l.drop k).take m)).length = n := by rw [wr_len _ _ _ (by omega), hlen]
        have hcut := cells_cut l k m
        obtain ⟨xs, hxs⟩ : ∃ xs, xs = (l.drop k).take m := ⟨_, rfl⟩
        rw [hr]
        rw [← hxs] at hxl hwl hcut ⊢
        have HL := Lib.hid hlen
        have HX := Lib.hid hxl
        have HW := Lib.hid hwl
        have HC := Lib.hid hcut
        have HP := Lib.hid hp
        have HP2 := Lib.hid hp2
        have HN := Lib.hid hn
        clear hr hxl hwl hp hp2 hlen hxs hcut hn
        by_cases hm0 : m = 0
        · have hx : xs = [] := List.eq_nil_of_length_eq_zero (by rw [HX.out]; exact hm0)
          subst hm0 hx
          have HP : Hid (placeW n (U t) 0 = ((i : Int), true)) := HP
          have HP2 : Hid (placeW n (U f) 0 = ((k : Int), true)) := HP2
          clear hm
          show Calls Try.prog 19 #[.slice A n c, .int .u64 (U t), .int .u64 (U f), .int .i64 0] w _
          go_enter Try.func19, Try.ntmps19
          repeat (first
            | (go_at_call 25; refine (place_any A n c _ _ _ HN.out).mono ?_; (first | rw [HP.out] | rw [HP2.out]); rintro e w' ⟨rfl, rfl⟩; unfold retIB; dsimp only)
            | (go_at_call 27; refine (clone_any _ _ _ _ _ h (cells_one _) HN.out).mono ?_; rintro e w' ⟨v, rfl, hown, hb⟩; obtain ⟨A', c', rfl, hr'⟩ := Reads.own hown; have hle' := hr'.le; dsimp only)
            | go_values | go_skip | go_guarded | go_step)
          have w1 : IntKind.i64.wrap (i : Int) = (i : Int) := IntWalk.i64_in _ (by omega)
          have w2 : IntKind.i64.wrap (k : Int) = (k : Int) := IntWalk.i64_in _ (by omega)
          have y1 : (0 : Int) ≤ (i : Int) := by omega
          have y2 : (0 : Int) ≤ (k : Int) := by omega
          have y5 : (i : Int) ≤ (c' : Int) := by omega
          have y6 : (k : Int) ≤ (c' : Int) := by omega
          go_region_law (refine step_copy_nothing rfl (.tmp 44) (.tmp 50) _ _ rfl 23 Try.underlying22 (by kernel_rfl) (if c' = i then A' else A'.map fun x => x.add i) (if c' = k then A' else A'.map fun x => x.add k) 0 (c' - i) 0 (c' - k) (by simp [Act.eval, Act.put]) (by simp [Act.eval, Act.put]) rfl ?_)
          repeat (first | go_values | go_skip | go_guarded | go_step | go_upon)
          go_ret2
          have e1 : wr l i [] = l := by simp [wr]
          rw [e1]
          exact ⟨A', c', by rw [HL.out]; rfl, by rw [HL.out]; exact hr'.drew, hb.drew⟩
        · have w1 : IntKind.i64.wrap ((i : Int) + (m : Int)) = (i : Int) + (m : Int) := IntWalk.i64_in _ (by omega)
          have w2 : IntKind.i64.wrap ((k : Int) + (m : Int)) = (k : Int) + (m : Int) := IntWalk.i64_in _ (by omega)
          have w3 : ((i : Int) + (m : Int)).toNat = i + m := by omega
          have w4 : ((k : Int) + (m : Int)).toNat = k + m := by omega
          go_enter Try.func19, Try.ntmps19
          repeat (first
            | (go_at_call 25; refine (place_any A n c _ _ _ HN.out).mono ?_; (first | rw [HP.out] | rw [HP2.out]); rintro e w' ⟨rfl, rfl⟩; unfold retIB; dsimp only)
            | (go_at_call 27; refine (clone_any _ _ _ _ _ h (cells_one _) HN.out).mono ?_; rintro e w' ⟨v, rfl, hown, hb⟩; rcases hown.2 with ⟨-, hz⟩ | ⟨g, cap, cur, rfl, hbg, hg, hncap, hcm, hsz, htk⟩; (exfalso; omega); (have HT := Lib.hid htk); (have HSZ := Lib.hid hsz); clear htk hsz; dsimp only)
            | go_values | go_skip | go_guarded | go_step)
          have z1 : ¬ cap = i := by omega
          have z2 : ¬ cap = k := by omega
          have z3 : i + m - i = m := by omega
          have z4 : k + m - k = m := by omega
          have y1 : (0 : Int) ≤ (i : Int) := by omega
          have y2 : (0 : Int) ≤ (k : Int) := by omega
          have y3 : (i : Int) ≤ (i : Int) + (m : Int) := by omega
          have y4 : (k : Int) ≤ (k : Int) + (m : Int) := by omega
          have y5 : (i : Int) + (m : Int) ≤ (cap : Int) := by omega
          have y6 : (k : Int) + (m : Int) ≤ (cap : Int) := by omega
          have hxc : (xs.flatMap wordCells).length = m := by rw [words_map, List.length_map, HX.out]
          have hcl : cur.toList.length = cap := by rw [Array.length_toList, HSZ.out, Nat.mul_one]
          have hsrc : ∀ j v, (xs.flatMap wordCells)[j]? = some v → w'.cell? ((⟨g, k, none⟩ : Addr).add j) = some v := by
            intro j v hj
            have hjm : j < m := by rw [← hxc]; exact (List.getElem?_eq_some_iff.1 hj).1
            rw [add_at, hown.cellAt (k + j) (by omega)]
            rw [← HC.out, List.getElem?_take, if_pos hjm, List.getElem?_drop] at hj
            exact hj
          have HXC := Lib.hid hxc
          have HCL := Lib.hid hcl
          have HSR := Lib.hid hsrc
          clear hxc hcl hsrc
          go_region_law (refine step_copy_splice rfl (.tmp 44) (.tmp 50) _ _ rfl 23 Try.underlying22 (by kernel_rfl) (some ⟨g, i, none⟩) (some ⟨g, k, none⟩) m (cap - i) m (cap - k) (by simp [Act.eval, Act.put]) (by simp [Act.eval, Act.put]) g i cur.toList 23 (by rw [Array.toArray_toList]; exact hg) (xs.flatMap wordCells) (by rw [HXC.out]; exact (Nat.min_self m).symm) (fun _ => ⟨rfl, _, rfl, HSR.out⟩) (by rw [HXC.out, HCL.out]; omega) (cells_one _) w.heap.size w hb.drew hbg ?_; intro w4 hg4 hb4)
          go_wp2_with fail
          go_ret2
          have hlw : ((wr l i xs).flatMap wordCells).length = n := by rw [words_map, List.length_map, HW.out]
          have hxs := HXC.out
          have hcl := HCL.out
          have hfin : w4.ownsRow w.heap.size 23 1 (.slice (some ⟨g, 0, none⟩) n cap) n ((wr l i xs).flatMap wordCells) := by
            refine ⟨by rw [hlw, Nat.mul_one], Or.inr ⟨g, cap, _, rfl, hbg, hg4.out, hncap, hcm, ?_, ?_⟩⟩
            · rw [List.size_toArray, length_splice _ _ _ (by omega), hcl, Nat.mul_one]
            · have ht := HT.out
              rw [Nat.mul_one] at ht ⊢
              rw [List.toList_toArray, splice_take _ n i _ (by omega) (by omega), ht, wr_cells]
          obtain ⟨A', c', e, hr'⟩ := Reads.own hfin
          injection e with e1 e2 e3
          subst e1 e3
          exact ⟨_, _, by rw [HW.out]; rfl, by rw [HW.out]; exact hr', hb4⟩
      · have hr : moveW l (U t) (U f) m = ([], 2) := by unfold moveW; rw [if_neg hm, hlen, hp, hp2, if_neg (fun h => by cases h.2)]
        rw [hr]
        have HP := Lib.hid hp
        have HP2 := Lib.hid hp2
        have HN := Lib.hid hn
        clear hr hp hp2 hlen hn
        go_enter Try.func19, Try.ntmps19
        go_wp2_with (go_at_call 25; refine (place_any A n c _ _ _ HN.out).mono ?_; (first | rw [HP.out] | rw [HP2.out]); rintro e w' ⟨rfl, rfl⟩; unfold retIB; dsimp only)
        go_ret2
        exact ⟨none, 0, rfl, Reads.nil, Below.refl _ _⟩
    · have hr : moveW l (U t) (U f) m = ([], 2) := by unfold moveW; rw [if_neg hm, hlen, hp, if_neg (fun h => by cases h.1)]
      rw [hr]
      obtain ⟨y, z, hf⟩ : ∃ y z, placeW n (U f) m = (y, z) := by rcases placeW n (U f) m with ⟨y, z⟩; exact ⟨y, z, rfl⟩
      have HP := Lib.hid hp
      have HP2 := Lib.hid hf
      have HN := Lib.hid hn
      clear hr hp hf hlen hn
      go_enter Try.func19, Try.ntmps19
      go_wp2_with (go_at_call 25; refine (place_any A n c _ _ _ HN.out).mono ?_; (first | rw [HP.out] | rw [HP2.out]); rintro e w' ⟨rfl, rfl⟩; unfold retIB; dsimp only)
      go_ret2
      exact ⟨none, 0, rfl, Reads.nil, Below.refl _ _⟩

theorem rmove_any (A : Option Addr) (n c : Nat) (l : List (BitVec 64)) (t f : BitVec 64) (m : Int) (w : World) (h : Reads w w.heap.size 1 A n c (l.flatMap wordCells)) (hn : n ≤ 1000000) :
    Calls Try.prog 24 #[.slice A n c, .int .u64 (U t), .int .u64 (U f), .int .i64 m] w (RetWs w (moveW l (U t) (U f) m)) := by
  have hlen := h.length (fun _ => rfl) (by omega)
  obtain ⟨y, er, hf⟩ : ∃ y er, readW l (U f) m = (y, er) := by rcases readW l (U f) m with ⟨z, er⟩; exact ⟨z, er, rfl⟩
  by_cases he : er = 0
  · subst he
    have hmv : moveW l (U t) (U f) m = writeW l (U t) y := by
      unfold readW at hf
      unfold moveW writeW
      by_cases hm : m < 0
      · rw [if_pos hm] at hf; rw [Prod.mk.injEq] at hf; obtain ⟨h1, h2⟩ := hf; exact absurd h2 (by decide)
      · rw [if_neg hm] at hf
        rw [if_neg hm]
        rcases placeW_cases n (U f) m (by omega) with ⟨k, hkk, -, hp2⟩ | ⟨j, hp2⟩
        · rw [hlen, hp2, if_pos rfl] at hf
          rw [Prod.mk.injEq] at hf
          obtain ⟨h1, h2⟩ := hf
          simp only [Int.toNat_natCast] at h1
          have hxl : y.length = m.toNat := by rw [← h1, List.length_take, List.length_drop]; omega
          have hxl' : (y.length : Int) = m := by omega
          rw [hlen, hp2, hxl']
          simp only [Int.toNat_natCast, and_true]
          rw [h1]
        · rw [hlen, hp2, if_neg (by simp)] at hf; rw [Prod.mk.injEq] at hf; obtain ⟨h1, h2⟩ := hf; exact absurd h2 (by decide)
    rw [hmv]
    have HF := Lib.hid hf
    clear hf hmv
    go_enter Try.func24, Try.ntmps24
    go_wp2_with fail
    refine (rread_any A n c l f m w h hn).mono ?_
    rw [HF.out]
    rintro e w' ⟨A', c', rfl, h2, hb⟩
    dsimp only at h2 ⊢
    go_wp2_with fail
    refine (rwrite_any _ _ _ _ _ _ _ _ _ w' (h.belowU hb) h2 hn).mono ?_
    rintro e w2 ⟨A2, c2, rfl, h3, hb2⟩
    go_wp2_with fail
    go_ret2
    exact ⟨A2, c2, rfl, h3, hb.trans (hb2.mono hb.size)⟩
  · have hmv : moveW l (U t) (U f) m = ([], er) := by
      unfold readW at hf
      unfold moveW
      by_cases hm : m < 0
      · rw [if_pos hm] at hf ⊢; rw [Prod.mk.injEq] at hf; obtain ⟨h1, h2⟩ := hf; rw [← h2]
      · rw [if_neg hm] at hf
        rw [if_neg hm]
        rcases placeW_cases n (U f) m (by omega) with ⟨k, hkk, -, hp2⟩ | ⟨j, hp2⟩
        · rw [hlen, hp2, if_pos rfl] at hf; rw [Prod.mk.injEq] at hf; obtain ⟨h1, h2⟩ := hf; exact absurd h2.symm he
        · rw [hlen, hp2, if_neg (by simp)] at hf; rw [Prod.mk.injEq] at hf; obtain ⟨h1, h2⟩ := hf; rw [hlen, hp2, if_neg (fun h => by cases h.2), ← h2]
    rw [hmv]
    have HF := Lib.hid hf
    clear hf hmv
    go_enter Try.func24, Try.ntmps24
    go_wp2_with fail
    refine (rread_any A n c l f m w h hn).mono ?_
    rw [HF.out]
    rintro e w' ⟨A', c', rfl, h2, hb⟩
    dsimp only at h2 ⊢
    go_wp2_with fail
    go_ret2
    exact ⟨none, 0, rfl, Reads.nil, hb⟩
end Go.Proofs.Ytopdplehnknbiaa

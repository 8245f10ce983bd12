/- The contract of slots.unused. -/
import Derived.Test.YtfcghhpbjnlldaaUnused
import Derived.WalkKit
import Derived.Maps.OwnOps
namespace Go.Proofs.Ytfcghhpbjnlldaa
open Go.RowKit Go.Maps Words

theorem lawInt : Keyed Try.prog 3 := int_keyed Try.underlying3
theorem plainElem_bool_inv {P : Program} {e : TypeId} (he : P.underlying e = some .bool) {v : Value} {z : DataW Unit × List MemPlace} (h : plainElem P e v = some z) : ∃ c, v = .bool c := by
  cases v <;> simp [plainElem, he] at h
  exact ⟨_, rfl⟩
/-- the keys that are left behind the second loop's k rounds -/
def F2 (l : List Ent) (n k : Nat) (j : Nat) : Prop := j < n ∧ ∀ y, l[j]? = some y → j < k → useE y = true
theorem F2_end {l : List Ent} {n : Nat} (hl : l.length = n) (j : Nat) : F2 l n n j ↔ ∃ y, l[j]? = some y ∧ useE y = true := by
  unfold F2
  constructor
  · rintro ⟨h1, h2⟩
    have hy : l[j]? = some (l[j]'(by omega)) := List.getElem?_eq_getElem (by omega)
    exact ⟨_, hy, h2 _ hy h1⟩
  · rintro ⟨y, hy, hu⟩
    have hj := (List.getElem?_eq_some_iff.1 hy).1
    refine ⟨by omega, fun z hz _ => ?_⟩
    obtain rfl : y = z := Option.some.inj (hy.symm.trans hz)
    exact hu
theorem F2_keep {l : List Ent} {n k : Nat} {x : Ent} (hx : l[k]? = some x) (hu : useE x = true) (j : Nat) : F2 l n k j ↔ F2 l n (k + 1) j := by
  unfold F2
  constructor
  · rintro ⟨h1, h2⟩
    refine ⟨h1, fun y hy hj => ?_⟩
    by_cases he : j = k
    · subst he
      obtain rfl : x = y := Option.some.inj (hx.symm.trans hy)
      exact hu
    · exact h2 y hy (by omega)
  · rintro ⟨h1, h2⟩
    exact ⟨h1, fun y hy hj => h2 y hy (by omega)⟩
theorem F2_del {l : List Ent} {n k : Nat} {x : Ent} (hx : l[k]? = some x) (hu : useE x = false) (j : Nat) : (j ≠ k ∧ F2 l n k j) ↔ F2 l n (k + 1) j := by
  unfold F2
  constructor
  · rintro ⟨h0, h1, h2⟩
    exact ⟨h1, fun y hy hj => h2 y hy (by omega)⟩
  · rintro ⟨h1, h2⟩
    refine ⟨fun he => ?_, h1, fun y hy hj => h2 y hy (by omega)⟩
    subst he
    have := h2 x hx (by omega)
    rw [hu] at this
    cases this
theorem any_use (l : List Ent) : l.any useE = true ↔ ∃ j : Nat, ∃ y, l[j]? = some y ∧ useE y = true := by
  rw [List.any_eq_true]
  constructor
  · rintro ⟨y, hy, hu⟩
    obtain ⟨j, hj⟩ := List.getElem?_of_mem hy
    exact ⟨j, y, hj, hu⟩
  · rintro ⟨j, y, hy, hu⟩
    exact ⟨y, List.mem_of_getElem? hy, hu⟩

set_option maxHeartbeats 1000000 in
theorem unused_any (A : Option Addr) (n c : Nat) (l : List Ent) (w : World) (h : Reads w w.heap.size 3 A n c (l.flatMap entCells)) (hn : n ≤ 1000000) :
    Calls Try.prog 25 #[tabV A n c] w fun e w' => e = .returned (.tuple #[.int .i64 (unusedW l).1, .bool (unusedW l).2]) ∧ Below w.heap.size w w' := by
  have hlen := h.length entCells_len (by omega)
  have hcap := h.cap
  have hle := h.le
  unfold maxLen at hcap
  have hmm := @run_makeMap Try.prog
  have hW := tab_alloc w A n c
  have c0 : (w.alloc (.cells #[.slice A n c] 24)).cell? ⟨w.heap.size, 0, none⟩ = some (.slice A n c) := (Blk.new w #[.slice A n c] 24).cell 0 _ rfl
  obtain ⟨wA, hwA⟩ : ∃ wA, w.alloc (.cells #[.slice A n c] 24) = wA := ⟨_, rfl⟩
  have hsA : wA.heap.size = w.heap.size + 1 := by rw [← hwA]; simp
  rw [hwA] at c0 hW
  have HL := Lib.hid hlen
  clear hlen
  go_enter Try.func25, Try.ntmps25
  go_wp2_with fail
  have hwA' := Lib.hid hwA
  clear hwA hmm
  have hm0 := World.ownsMap_made wA Try.prog 3 (plainElem (H := Unit) Try.prog 4)
  rw [hsA] at hm0
  go_loopw [14] (fun x wq => ∃ (k : Nat) (D : DataW Unit), k ≤ n ∧ x = .int .i64 k ∧ wq.ownsMap Try.prog 3 (plainElem Try.prog 4) (w.heap.size + 1) k D ∧ Keys D (fun j => j < k) ∧ Below wA.heap.size wA wq) (fun x _ => n - (intOf x).toNat)
  case atStart => exact ⟨0, _, Nat.zero_le _, rfl, hm0, Keys.start.congr (fun j => by simp), keep_alloc (Below.refl _ _) _⟩
  case round =>
    obtain ⟨k, D, hk, rfl, hown, hK, hb⟩ := hrel
    have hsz := hb.size
    by_cases hlt : k < n
    · have hKl := Lib.hid hK
      clear hK hm0
      go_wp2_with (at_mapUpdate; refine wpList_mapUpdate_own _ rfl _ _ _ 60 rfl 3 4 lawInt Try.underlying60 _ (w.heap.size + 1) k _ rfl hown (by unfold maxLen; omega) _ _ _ rfl rfl (keyOf_int_mk Try.underlying3 (WalkArith.wf_i64 (by omega))) _ [] (plainElem_bool Try.underlying4 true) ?_; intro w2 hown2 hg2)
      go_roundw
      case rel => exact ⟨k + 1, _, by omega, by go_num, hown2, (hKl.out.put hown.isMap k _).congr (fun j => by omega), hb.grown hg2 hsz (fun q hq => by cases hq; omega)⟩
      case measure => simp [intOf]; omega
    · have hkn : k = n := by omega
      subst hkn
      have hK2 := hK.congr (g := F2 l k 0) (fun j => ⟨fun hj => ⟨hj, fun y _ h0 => by omega⟩, fun hj => hj.1⟩)
      have hKl := Lib.hid hK2
      have hbl := Lib.hid hb
      have q0 : wr.cell? ⟨w.heap.size, 0, none⟩ = some (.slice A k c) := keep_cell hb c0
      clear hK hK2 hm0 hb hlt
      go_wp2_with fail
      go_loopw [23] (fun x wq => ∃ (i : Nat) (D2 : DataW Unit), i ≤ k ∧ x = .int .i64 i ∧ wq.ownsMap Try.prog 3 (plainElem Try.prog 4) (w.heap.size + 1) k D2 ∧ Keys D2 (F2 l k i) ∧ Below wA.heap.size wA wq) (fun x _ => k - (intOf x).toNat)
      case atStart => exact ⟨0, _, Nat.zero_le _, rfl, hown, hKl.out, hbl.out⟩
      case round =>
        obtain ⟨i, D2, hi, rfl, hown2, hK3, hb3⟩ := hrel
        have hsz3 := hb3.size
        by_cases hlt2 : i < k
        · have hR := (h.below (hW.trans (hb3.mono (by omega)))).elem entCells_len (by omega) hlt2
          obtain ⟨b, off, x, rfl, hbb, hx, hc⟩ := hR
          have d0 := hc 0 _ rfl
          have d1 := hc 1 _ rfl
          have d2 := hc 2 _ rfl
          rw [Nat.add_zero] at d0
          have HX := Lib.hid hx
          have hK4 := Lib.hid hK3
          have hk0 : (0 : Int) ≤ (i : Int) := by omega
          have hk1 : (i : Int) < (k : Int) := by omega
          clear hc hx hK3
          obtain ⟨g, r, lv⟩ := x
          dsimp only at d0 d1 d2
          cases lv
          · by_cases hg : g = 4294967295
            · have HU := Lib.hid (show useE ⟨g, r, false⟩ = false by simp [useE, hg])
              have e1 : (g == (4294967295 : Int)) = true := by rw [hg]; rfl
              clear hg
              go_wp2_with (at_delete; refine wpList_delete_own _ rfl _ _ 60 3 rfl 4 lawInt Try.underlying60 _ (w.heap.size + 1) k _ rfl (hown2.alloc _) _ _ rfl (keyOf_int_mk Try.underlying3 (WalkArith.wf_i64 (by omega))) ?_; intro w2 hown4 hturn)
              go_roundw
              case rel => exact ⟨i + 1, _, by omega, by go_num, hown4, (hK4.out.del i).congr (F2_del HX.out HU.out), (hb3.alloc hsz3 _).grown hturn.grown (by simp; omega) (fun q hq => by cases hq; omega)⟩
              case measure => simp [intOf]; omega
            · have HU := Lib.hid (show useE ⟨g, r, false⟩ = true by simp [useE, hg])
              have e1 : (g == (4294967295 : Int)) = false := by simp [hg]
              clear hg
              go_wp2_with fail
              go_roundw
              case rel => exact ⟨i + 1, _, by omega, by go_num, hown2.alloc _, hK4.out.congr (F2_keep HX.out HU.out), hb3.alloc hsz3 _⟩
              case measure => simp [intOf]; omega
          · have HU := Lib.hid (show useE ⟨g, r, true⟩ = false by simp [useE])
            go_wp2_with (at_delete; refine wpList_delete_own _ rfl _ _ 60 3 rfl 4 lawInt Try.underlying60 _ (w.heap.size + 1) k _ rfl (hown2.alloc _) _ _ rfl (keyOf_int_mk Try.underlying3 (WalkArith.wf_i64 (by omega))) ?_; intro w2 hown4 hturn)
            go_roundw
            case rel => exact ⟨i + 1, _, by omega, by go_num, hown4, (hK4.out.del i).congr (F2_del HX.out HU.out), (hb3.alloc hsz3 _).grown hturn.grown (by simp; omega) (fun q hq => by cases hq; omega)⟩
            case measure => simp [intOf]; omega
        · have hik : i = k := by omega
          subst hik
          have hK5 := Lib.hid (hK3.congr (F2_end HL.out))
          have q2 : wr.cell? ⟨w.heap.size, 0, none⟩ = some (.slice A i c) := keep_cell hb3 c0
          have hbl3 := Lib.hid hb3
          clear hK3 hb3 hlt2
          go_wp2_with (at_range; refine wpList_range_own _ rfl _ 60 rfl 3 4 lawInt Try.underlying60 _ (w.heap.size + 1) i _ rfl hown2 ?_; intro w0 hrg0 hg0 hs0)
          go_frame
          have hsW := hbl3.out.size
          have hB0 : Below wA.heap.size wA w0 := hbl3.out.grown hg0 hsW (fun q hq => by cases hq)
          obtain ⟨R, hR⟩ : ∃ R, wr.heap.size = R := ⟨_, rfl⟩
          rw [hR] at hrg0 hs0 hsW ⊢
          go_loopw [8] (fun v wq => ∃ (left : Lit → Bool) (cnt : Nat) (f : Nat), v = .int .i64 f ∧ wq.ranges Try.prog 3 (plainElem Try.prog 4) (w.heap.size + 1) R i D2 left cnt ∧ (∀ kl, left kl = true → Maps.has D2 kl = true) ∧ (∀ j y, l[j]? = some y → useE y = true → left (kLit j) = true ∨ f ≤ j) ∧ (f = i ∨ ∃ y, l[f]? = some y ∧ useE y = true) ∧ Below wA.heap.size wA wq) (fun _ wq => wq.rangeLeft (w.heap.size + 1) R)
          case atStart => exact ⟨_, _, i, rfl, hrg0, fun _ h => h, fun j y hy hu => Or.inl ((hK5.out _).2 ⟨j, rfl, y, hy, hu⟩), Or.inl rfl, hB0⟩
          case round =>
            obtain ⟨left, cnt, f, rfl, hrg, hsub, hall, hfst, hb4⟩ := hrel
            have hA1 := Lib.hid hsub
            have hA2 := Lib.hid hall
            have hA3 := Lib.hid hfst
            clear hsub hall hfst
            go_wp2_with (at_next; refine wpList_next_ranges _ rfl _ rfl 3 lawInt _ (fun x : Int => .int .i64 x) (fun v : Value => v) (fun key kl hk => (Maps.keyOf_int_inv Try.underlying3 hk).imp fun x hx => hx.1) (fun v _ _ => ⟨v, rfl⟩) (w.heap.size + 1) R i _ _ _ rfl hrg ?_ ?_)
            · intro _ hl0
              have hno : ∀ j y, l[j]? = some y → useE y = true → f ≤ j := fun j y hy hu => by
                rcases hA2.out j y hy hu with h | h
                · rw [hl0] at h; cases h
                · exact h
              have hfu : firstUse l = f := by
                have hfl := firstUse_le l
                have hlen := HL.out
                rcases hA3.out with rfl | ⟨y, hy, hu⟩
                · by_cases hlt : firstUse l < l.length
                  · obtain ⟨y, hy, hu⟩ := firstUse_at l hlt
                    have := hno _ y hy hu
                    omega
                  · omega
                · have h1 := firstUse_lt l f y hy hu
                  have hfi := (List.getElem?_eq_some_iff.1 hy).1
                  obtain ⟨z, hz, huz⟩ := firstUse_at l (by omega)
                  have := hno _ z hz huz
                  omega
              have hown5 := hrg.owns
              have hsize := hK5.out.size (by obtain ⟨es, h1, -, h2⟩ := hown5.entries lawInt; exact ⟨es, h1, h2⟩)
              have hsd : decide (0 < Maps.size D2) = l.any useE := by
                rw [Bool.eq_iff_iff, decide_eq_true_eq, any_use, ← hsize]
              have HU := Lib.hid (show unusedW l = ((f : Int), decide (0 < Maps.size D2)) by unfold unusedW; rw [hfu, hsd])
              clear hno hfu hsize hsd
              go_wp2_with (at_len; refine wpList_len_own _ rfl _ 60 rfl 3 4 Try.underlying60 _ (w.heap.size + 1) i D2 rfl hown5 ?_)
              go_ret2
              exact ⟨by rw [HU.out]; rfl, hW.trans (hb4.mono (by omega))⟩
            · intro x q kl ya yb w1 cnt1 hkx hlx hqx hat hrg1 hlt hg1 hs1 hen
              obtain ⟨j, rfl, y, hy, hu⟩ := (hK5.out kl).1 (hA1.out kl hlx)
              obtain rfl : x = (j : Int) := by
                obtain ⟨x', h1, h2, _⟩ := Maps.keyOf_int_inv Try.underlying3 hkx
                injection h1 with h3 h4
                injection h2 with h5 h6
                omega
              have HB4 := Lib.hid hb4
              have HRG := Lib.hid hrg
              have hnew : ∀ j' z, l[j']? = some z → useE z = true → j' = j ∨ (left (kLit j') && !(kLit j').sameKey (kLit j)) = true ∨ f ≤ j' := fun j' z hz huz => by
                by_cases he : j' = j
                · exact Or.inl he
                · rcases hA2.out j' z hz huz with h | h
                  · exact Or.inr (Or.inl (by rw [h, Maps.sameKey_ne (fun e => he (kLit_inj e))]; rfl))
                  · exact Or.inr (Or.inr h)
              have HN := Lib.hid hnew
              clear hkx hqx hat hrg hb4 hnew
              by_cases hfj : f ≤ j
              · go_wp2_with fail
                refine ⟨⟨_, cnt1, f, rfl, hrg1, fun kl hkl => hA1.out kl (by rw [Bool.and_eq_true] at hkl; exact hkl.1), fun j' z hz huz => ?_, hA3.out, HB4.out.grown hg1 HB4.out.size (fun q hq => by cases hq; exact hsW)⟩, by rw [hrg1.left_eq, HRG.out.left_eq]; exact hlt⟩
                rcases HN.out j' z hz huz with h | h | h
                · exact Or.inr (by omega)
                · exact Or.inl h
                · exact Or.inr h
              · go_wp2_with fail
                refine ⟨⟨_, cnt1, j, rfl, hrg1, fun kl hkl => hA1.out kl (by rw [Bool.and_eq_true] at hkl; exact hkl.1), fun j' z hz huz => ?_, Or.inr ⟨y, hy, hu⟩, HB4.out.grown hg1 HB4.out.size (fun q hq => by cases hq; exact hsW)⟩, by rw [hrg1.left_eq, HRG.out.left_eq]; exact hlt⟩
                rcases HN.out j' z hz huz with h | h | h
                · exact Or.inr (by omega)
                · exact Or.inl h
                · exact Or.inr (by omega)
end Go.Proofs.Ytfcghhpbjnlldaa

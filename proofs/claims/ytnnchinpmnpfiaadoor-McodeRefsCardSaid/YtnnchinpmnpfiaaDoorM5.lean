/- A function given to the program under test. Printed by mk_m5.py. -/
import Derived.Test.YtnnchinpmnpfiaaDoorM4
import Derived.WalkKit
namespace Go.Proofs.YtnnchinpmnpfiaaDoor
open Go.ChangeShapes Go.WideShapes Go.RowKit Words

theorem if_yes {c : Bool} {A B : Prop} (h : c = true) (a : A) : if c = true then A else B := by rw [if_pos h]; exact a
/-- a function comes back: the same numbers and kinds, the instructions in memory of the call's own -/
def RetFn (w : World) (p : Int) (A : Option Addr) (n c : Nat) (r : Int) (ins : List NI) (e : Ending) (w' : World) : Prop :=
  ∃ B d, e = .returned (fnV p A n c r B ins.length d) ∧ Reads w' w'.heap.size 5 B ins.length d (ins.flatMap insCells) ∧ Below w.heap.size w w'
set_option linter.unusedSimpArgs false in
set_option maxRecDepth 100000 in
set_option maxHeartbeats 4000000 in
theorem function_any (p : Int) (A : Option Addr) (n c : Nat) (r : Int) (B : Option Addr) (m d : Nat) (ins : List NI) (w : World) (h : Reads w w.heap.size 5 B m d (ins.flatMap insCells)) (hm : m ≤ 1000000) :
    Calls Tryd.prog 13 #[fnV p A n c r B m d] w (RetFn w p A n c r ins) := by
  have hlen := h.length insCells_len (by omega)
  have hB0 : Below w.heap.size w (((w.alloc (.cells #[.int .i64 p, .slice A n c, .int .i64 r, .slice B m d] 44)).alloc (.cells #[.int .i64 0, .slice none 0 0, .int .i64 0, .slice none 0 0] 49)).alloc (.cells #[.int .i64 p, .slice A n c, .int .i64 r, .slice none 0 0] 49)) := keep_alloc (keep_alloc (keep_alloc (Below.refl _ _) _) _) _
  have P0 := ((Blk.new w #[.int .i64 p, .slice A n c, .int .i64 r, .slice B m d] 44).alloc (.cells #[.int .i64 0, .slice none 0 0, .int .i64 0, .slice none 0 0] 49)).alloc (.cells #[.int .i64 p, .slice A n c, .int .i64 r, .slice none 0 0] 49)
  have R0 := (Blk.newAt (w.alloc (.cells #[.int .i64 p, .slice A n c, .int .i64 r, .slice B m d] 44)) #[.int .i64 0, .slice none 0 0, .int .i64 0, .slice none 0 0] 49 (w.heap.size + 1) (by simp)).alloc (.cells #[.int .i64 p, .slice A n c, .int .i64 r, .slice none 0 0] 49)
  have O0 := Blk.newAt ((w.alloc (.cells #[.int .i64 p, .slice A n c, .int .i64 r, .slice B m d] 44)).alloc (.cells #[.int .i64 0, .slice none 0 0, .int .i64 0, .slice none 0 0] 49)) #[.int .i64 p, .slice A n c, .int .i64 r, .slice none 0 0] 49 (w.heap.size + 1 + 1) (by simp)
  have HL := Lib.hid hlen
  have y0 := (Blk.new w #[.int .i64 p, .slice A n c, .int .i64 r, .slice B m d] 44).cell 0 _ rfl
  clear hlen
  go_enter Tryd.func13, Tryd.ntmps13
  go_wp2_with fail
  obtain ⟨w1, hw1⟩ : ∃ w1, ((w.alloc (.cells #[.int .i64 p, .slice A n c, .int .i64 r, .slice B m d] 44)).alloc (.cells #[.int .i64 0, .slice none 0 0, .int .i64 0, .slice none 0 0] 49)).alloc (.cells #[.int .i64 p, .slice A n c, .int .i64 r, .slice none 0 0] 49) = w1 := ⟨_, rfl⟩
  have hs1 : w1.heap.size = w.heap.size + 3 := by rw [← hw1]; simp
  rw [hw1] at hB0 P0 R0 O0 ⊢
  have h1 := h.below hB0
  obtain ⟨g, hg⟩ : ∃ g, w.heap.size = g := ⟨_, rfl⟩
  rw [hg] at hB0 P0 R0 O0 hs1 h1 ⊢
  obtain ⟨a2, ha2⟩ : ∃ a2, g + 1 + 1 = a2 := ⟨_, rfl⟩
  have hga : g + 2 = a2 := by omega
  rw [ha2] at O0 ⊢
  have HG := Lib.hid hg
  clear hw1 y0 h hg ha2
  go_loopw [4] (fun x wq => ∃ (k : Nat) (A' : Option Addr) (e' : Nat), k ≤ m ∧ x = .int .i64 k ∧ wq.ownsRow (a2 + 1) 53 5 (.slice A' k e') k ((ins.take k).flatMap insCells) ∧ Blk wq a2 49 #[.int .i64 p, .slice A n c, .int .i64 r, .slice A' k e'] ∧ Below a2 w1 wq ∧ w1.heap.size ≤ wq.heap.size) (fun x _ => m - (intOf x).toNat)
  case atStart => exact ⟨0, none, 0, Nat.zero_le _, rfl, World.ownsRow_nil _ _ _ _, O0, Below.refl _ _, Nat.le_refl _⟩
  case round =>
    obtain ⟨k, A', e', hk, rfl, hown, O, hb, hsz⟩ := hrel
    have P := P0.belowB hb (by omega)
    have p3 : wr.cell? ⟨g, 3, none⟩ = some (.slice B m d) := P.cell 3 _ rfl
    by_cases hlt : k < m
    · obtain ⟨b0, off, x, rfl, hbb, hx, hc⟩ := (h1.below (hb.mono (by omega))).elem insCells_len (by omega) hlt
      obtain ⟨op, a, b, c', kk⟩ := x
      have d0 : wr.cell? ⟨b0, off + k * 5, none⟩ = some (.int .i64 op) := hc 0 _ rfl
      have d1 := hc 1 _ rfl
      have d2 := hc 2 _ rfl
      have d3 := hc 3 _ rfl
      have d4 := hc 4 _ rfl
      dsimp only at d1 d2 d3 d4
      have hk0 : (0 : Int) ≤ (k : Int) := by omega
      have hk1 : (k : Int) < (m : Int) := by omega
      have hd : decide ((k : Int) < (m : Int)) = true := decide_eq_true hk1
      have hd2 : decide (k < m) = true := decide_eq_true hlt
      have hw : IntKind.i64.wrap ((k : Int) + 1) = (k : Int) + 1 := IntWalk.i64_in _ (by omega)
      have HS := Lib.hid (show (ins.take (k + 1)).flatMap insCells = (ins.take k).flatMap insCells ++ [.int .i64 op, .int .i64 a, .int .i64 b, .int .i64 c', .int .u64 (U kk)] from by rw [take_nx' hx, List.flatMap_append]; rfl)
      have q1' : k + 1 ≤ maxLen := by unfold maxLen; omega
      have q2' : (k + 1) * 40 ≤ 140737488355328 := by omega
      have hb0a : b0 < a2 := by omega
      have hgl : g < a2 := by omega
      clear hc hx
      go_upto_region 5 with fail
      have hH : Below wr.heap.size wr (World.drew wr) := (Below.refl _ _).drew
      have o3 : (World.drew wr).cell? ⟨a2, 3, none⟩ = some (.slice A' k e') := O.cell 3 _ rfl
      refine wp_region_noPanic ?_
      refine wp_region_held_drew (S := fun w' => Below a2 wr w') (by kernel_rfl) (Below.refl _ _).drew (fun hHeld => ?_)
      refine wpAnyH_take (i := 0) (v := ?_) rfl (by kernel_rfl) (by kernel_rfl) (by kernel_rfl) (fun _ _ _ h => h) (Or.inl ⟨by rfl, ?_⟩) (by assumption) ?_
      rotate_left
      · intro wq hSw; clear hSw; go_simp; (try with_reducible rfl)
      (try simp only [List.getElem_toArray, List.getElem_cons_zero, List.getElem_cons_succ, Act.put, List.setIfInBounds_toArray, List.set_cons_zero, List.set_cons_succ])
      refine wpAnyH_take (i := 2) (v := ?_) rfl (by kernel_rfl) (by kernel_rfl) (by kernel_rfl) (fun _ _ _ h => h) (Or.inl ⟨by rfl, ?_⟩) (by assumption) ?_
      rotate_left
      · intro wq hSw; clear hSw; go_simp; (try with_reducible rfl)
      (try simp only [List.getElem_toArray, List.getElem_cons_zero, List.getElem_cons_succ, Act.put, List.setIfInBounds_toArray, List.set_cons_zero, List.set_cons_succ])
      refine wpAnyH_take (i := 3) (v := ?_) rfl (by kernel_rfl) (by kernel_rfl) (by kernel_rfl) (fun _ _ _ h => h) (Or.inl ⟨by rfl, ?_⟩) (by assumption) ?_
      rotate_left
      · intro wq hSw; have zp3 := (hSw.cell (p := ⟨g, 3, none⟩) hgl).trans p3; clear hSw; go_simp; (try with_reducible rfl)
      (try simp only [List.getElem_toArray, List.getElem_cons_zero, List.getElem_cons_succ, Act.put, List.setIfInBounds_toArray, List.set_cons_zero, List.set_cons_succ])
      refine wpAnyH_take (i := 4) (v := ?_) rfl (by kernel_rfl) (by kernel_rfl) (by kernel_rfl) (fun _ _ _ h => h) (Or.inl ⟨by rfl, ?_⟩) (by assumption) ?_
      rotate_left
      · intro wq hSw; clear hSw; go_simp; (try with_reducible rfl)
      (try simp only [List.getElem_toArray, List.getElem_cons_zero, List.getElem_cons_succ, Act.put, List.setIfInBounds_toArray, List.set_cons_zero, List.set_cons_succ])
      refine wpAnyH_take (i := 5) (v := ?_) rfl (by kernel_rfl) (by kernel_rfl) (by kernel_rfl) (fun _ _ _ h => h) (Or.inl ⟨by rfl, ?_⟩) (by assumption) ?_
      rotate_left
      · intro wq hSw; clear hSw; go_simp; (try with_reducible rfl)
      (try simp only [List.getElem_toArray, List.getElem_cons_zero, List.getElem_cons_succ, Act.put, List.setIfInBounds_toArray, List.set_cons_zero, List.set_cons_succ])
      refine wpAnyH_take (i := 6) (v := ?_) rfl (by kernel_rfl) (by kernel_rfl) (by kernel_rfl) (fun _ _ _ h => h) (Or.inl ⟨by rfl, ?_⟩) (by assumption) ?_
      rotate_left
      · intro wq hSw; have zd0 := (hSw.cell (p := ⟨b0, off + k * 5, none⟩) hb0a).trans d0; have zd1 := (hSw.cell (p := ⟨b0, off + k * 5 + 1, none⟩) hb0a).trans d1; have zd2 := (hSw.cell (p := ⟨b0, off + k * 5 + 2, none⟩) hb0a).trans d2; have zd3 := (hSw.cell (p := ⟨b0, off + k * 5 + 3, none⟩) hb0a).trans d3; have zd4 := (hSw.cell (p := ⟨b0, off + k * 5 + 4, none⟩) hb0a).trans d4; clear hSw; go_simp; (try with_reducible rfl)
      (try simp only [List.getElem_toArray, List.getElem_cons_zero, List.getElem_cons_succ, Act.put, List.setIfInBounds_toArray, List.set_cons_zero, List.set_cons_succ])
      refine wpAnyH_ready (rs := [1, 7]) (by kernel_rfl) (by simp) ?_
      refine AllReadyH.cons (i := 1) (by rfl) ?_ (AllReadyH.cons (i := 7) (by rfl) ?_ (AllReadyH.nil))
      · skip
        intro K' hK
        simp only [List.getElem_toArray, List.getElem_cons_zero, List.getElem_cons_succ]
        refine if_yes (by kernel_rfl) ?_
        go_big_op
        refine hK.out _ _ ?_ (fun hHeld2 => ?_)
        · exact hHeld
        clear hK K' hHeld
        have hHeld := hHeld2
        clear hHeld2
        (try simp only [List.getElem_toArray, List.getElem_cons_zero, List.getElem_cons_succ, Act.put, List.setIfInBounds_toArray, List.set_cons_zero, List.set_cons_succ])
        refine wpAnyH_ready (rs := [7]) (by kernel_rfl) (by simp) ?_
        refine AllReadyH.cons (i := 7) (by rfl) ?_ (AllReadyH.nil)
        · skip
          intro K' hK
          simp only [List.getElem_toArray, List.getElem_cons_zero, List.getElem_cons_succ]
          refine if_yes (by kernel_rfl) ?_
          go_big_op
          (go_at_call 14; refine (ins_any ⟨op, a, b, c', kk⟩ _).mono ?_; rintro e w2 ⟨rfl, hb1⟩)
          refine hK.out _ _ ?_ (fun hHeld2 => ?_)
          · exact hHeld.trans (hb1.mono (by have := hH.size; omega))
          clear hK K' hHeld
          have hHeld := hHeld2
          clear hHeld2
          (try simp only [List.getElem_toArray, List.getElem_cons_zero, List.getElem_cons_succ, Act.put, List.setIfInBounds_toArray, List.set_cons_zero, List.set_cons_succ])
          have hH := keep_below hb1 hH
          have o3 := keep_cell hb1 o3
          clear hb1
          refine wpAnyH_ready (rs := [8]) (by kernel_rfl) (by simp) ?_
          refine AllReadyH.cons (i := 8) (by rfl) ?_ (AllReadyH.nil)
          · skip
            intro K' hK
            simp only [List.getElem_toArray, List.getElem_cons_zero, List.getElem_cons_succ]
            refine if_yes (by kernel_rfl) ?_
            go_big_op
            refine hK.out _ _ ?_ (fun hHeld2 => ?_)
            · exact hHeld.alloc (by have := hH.size; omega) _
            clear hK K' hHeld
            have hHeld := hHeld2
            clear hHeld2
            (try simp only [List.getElem_toArray, List.getElem_cons_zero, List.getElem_cons_succ, Act.put, List.setIfInBounds_toArray, List.set_cons_zero, List.set_cons_succ])
            have hfr := Reads.freshAs w2 #[.int .i64 op, .int .i64 a, .int .i64 b, .int .i64 c', .int .u64 (U kk)] 53 5 1 [.int .i64 op, .int .i64 a, .int .i64 b, .int .i64 c', .int .u64 (U kk)] rfl rfl (by decide)
            have o3 := (keep_cell (keep_alloc (Below.refl w2.heap.size w2) (.cells #[.int .i64 op, .int .i64 a, .int .i64 b, .int .i64 c', .int .u64 (U kk)] 53)) o3)
            have hH := keep_alloc hH (.cells #[.int .i64 op, .int .i64 a, .int .i64 b, .int .i64 c', .int .u64 (U kk)] 53)
            refine wpAnyH_ready (rs := [9]) (by kernel_rfl) (by simp) ?_
            refine AllReadyH.cons (i := 9) (by rfl) ?_ AllReadyH.nil
            have hownC := own_keep hown hH
            intro K' hK
            refine step_app rfl _ _ _ (by rfl) tyMIns (by rfl) hownC (by rfl) hfr (by simp [Value.oneCell']) q1' q2' (by have := hH.size; omega) ?_; intro v' w6 hown' hbG; obtain ⟨A3, c3, rfl, -⟩ := Reads.own hown'
            refine hK.out _ _ ?_ (fun hHeld2 => ?_)
            · exact hHeld.trans (hbG.mono (by omega))
            clear hK K' hHeld
            have hHeld := hHeld2
            clear hHeld2
            (try simp only [List.getElem_toArray, List.getElem_cons_zero, List.getElem_cons_succ, Act.put, List.setIfInBounds_toArray, List.set_cons_zero, List.set_cons_succ])
            have O6 := (O.below hH).belowB hbG (by omega)
            have o6 := O6.cell 3 _ rfl
            have e6 := O6.free
            refine wpAnyH_take (i := 10) (v := ?_) rfl (by kernel_rfl) (by kernel_rfl) (by kernel_rfl) (fun _ _ _ h => h) (Or.inl ⟨by rfl, ?_⟩) (by assumption) ?_
            rotate_left
            · intro wq hSw; clear hSw; go_simp; (try with_reducible rfl)
            (try simp only [List.getElem_toArray, List.getElem_cons_zero, List.getElem_cons_succ, Act.put, List.setIfInBounds_toArray, List.set_cons_zero, List.set_cons_succ])
            refine wpAnyH_ready (rs := [11]) (by kernel_rfl) (by simp) ?_
            refine AllReadyH.cons (i := 11) (by rfl) ?_ AllReadyH.nil
            intro K' hK
            simp only [List.getElem_toArray, List.getElem_cons_zero, List.getElem_cons_succ]
            refine if_yes (by kernel_rfl) ?_
            go_big_op
            refine hK.out _ _ ?_ (fun hHeld2 => ?_)
            · exact hHeld.setCell (p := ⟨a2, 3, none⟩) (Nat.le_refl _) _
            clear hK K' hHeld
            have hHeld := hHeld2
            clear hHeld2
            (try simp only [List.getElem_toArray, List.getElem_cons_zero, List.getElem_cons_succ, Act.put, List.setIfInBounds_toArray, List.set_cons_zero, List.set_cons_succ])
            refine wpAnyH_done (by kernel_rfl) ?_ _
            refine NoPanic.normal ?_
            go_wp2_with fail
            go_roundw
            case rel =>
              refine ⟨k + 1, A3, c3, by omega, by go_num, ?_, O6.set 3 (.slice A3 (k + 1) c3), hb.trans hHeld, by have := hH.size; have := hbG.size; simp; omega⟩
              rw [HS.out]
              exact ownsRow_setCell_below hown' (by show a2 < _; omega) _
            case measure => simp [intOf]; omega
      · skip
        intro K' hK
        simp only [List.getElem_toArray, List.getElem_cons_zero, List.getElem_cons_succ]
        refine if_yes (by kernel_rfl) ?_
        go_big_op
        (go_at_call 14; refine (ins_any ⟨op, a, b, c', kk⟩ _).mono ?_; rintro e w2 ⟨rfl, hb1⟩)
        refine hK.out _ _ ?_ (fun hHeld2 => ?_)
        · exact hHeld.trans (hb1.mono (by have := hH.size; omega))
        clear hK K' hHeld
        have hHeld := hHeld2
        clear hHeld2
        (try simp only [List.getElem_toArray, List.getElem_cons_zero, List.getElem_cons_succ, Act.put, List.setIfInBounds_toArray, List.set_cons_zero, List.set_cons_succ])
        have hH := keep_below hb1 hH
        have o3 := keep_cell hb1 o3
        clear hb1
        refine wpAnyH_ready (rs := [1, 8]) (by kernel_rfl) (by simp) ?_
        refine AllReadyH.cons (i := 1) (by rfl) ?_ (AllReadyH.cons (i := 8) (by rfl) ?_ (AllReadyH.nil))
        · skip
          intro K' hK
          simp only [List.getElem_toArray, List.getElem_cons_zero, List.getElem_cons_succ]
          refine if_yes (by kernel_rfl) ?_
          go_big_op
          refine hK.out _ _ ?_ (fun hHeld2 => ?_)
          · exact hHeld
          clear hK K' hHeld
          have hHeld := hHeld2
          clear hHeld2
          (try simp only [List.getElem_toArray, List.getElem_cons_zero, List.getElem_cons_succ, Act.put, List.setIfInBounds_toArray, List.set_cons_zero, List.set_cons_succ])
          refine wpAnyH_ready (rs := [8]) (by kernel_rfl) (by simp) ?_
          refine AllReadyH.cons (i := 8) (by rfl) ?_ (AllReadyH.nil)
          · skip
            intro K' hK
            simp only [List.getElem_toArray, List.getElem_cons_zero, List.getElem_cons_succ]
            refine if_yes (by kernel_rfl) ?_
            go_big_op
            refine hK.out _ _ ?_ (fun hHeld2 => ?_)
            · exact hHeld.alloc (by have := hH.size; omega) _
            clear hK K' hHeld
            have hHeld := hHeld2
            clear hHeld2
            (try simp only [List.getElem_toArray, List.getElem_cons_zero, List.getElem_cons_succ, Act.put, List.setIfInBounds_toArray, List.set_cons_zero, List.set_cons_succ])
            have hfr := Reads.freshAs w2 #[.int .i64 op, .int .i64 a, .int .i64 b, .int .i64 c', .int .u64 (U kk)] 53 5 1 [.int .i64 op, .int .i64 a, .int .i64 b, .int .i64 c', .int .u64 (U kk)] rfl rfl (by decide)
            have o3 := (keep_cell (keep_alloc (Below.refl w2.heap.size w2) (.cells #[.int .i64 op, .int .i64 a, .int .i64 b, .int .i64 c', .int .u64 (U kk)] 53)) o3)
            have hH := keep_alloc hH (.cells #[.int .i64 op, .int .i64 a, .int .i64 b, .int .i64 c', .int .u64 (U kk)] 53)
            refine wpAnyH_ready (rs := [9]) (by kernel_rfl) (by simp) ?_
            refine AllReadyH.cons (i := 9) (by rfl) ?_ AllReadyH.nil
            have hownC := own_keep hown hH
            intro K' hK
            refine step_app rfl _ _ _ (by rfl) tyMIns (by rfl) hownC (by rfl) hfr (by simp [Value.oneCell']) q1' q2' (by have := hH.size; omega) ?_; intro v' w6 hown' hbG; obtain ⟨A3, c3, rfl, -⟩ := Reads.own hown'
            refine hK.out _ _ ?_ (fun hHeld2 => ?_)
            · exact hHeld.trans (hbG.mono (by omega))
            clear hK K' hHeld
            have hHeld := hHeld2
            clear hHeld2
            (try simp only [List.getElem_toArray, List.getElem_cons_zero, List.getElem_cons_succ, Act.put, List.setIfInBounds_toArray, List.set_cons_zero, List.set_cons_succ])
            have O6 := (O.below hH).belowB hbG (by omega)
            have o6 := O6.cell 3 _ rfl
            have e6 := O6.free
            refine wpAnyH_take (i := 10) (v := ?_) rfl (by kernel_rfl) (by kernel_rfl) (by kernel_rfl) (fun _ _ _ h => h) (Or.inl ⟨by rfl, ?_⟩) (by assumption) ?_
            rotate_left
            · intro wq hSw; clear hSw; go_simp; (try with_reducible rfl)
            (try simp only [List.getElem_toArray, List.getElem_cons_zero, List.getElem_cons_succ, Act.put, List.setIfInBounds_toArray, List.set_cons_zero, List.set_cons_succ])
            refine wpAnyH_ready (rs := [11]) (by kernel_rfl) (by simp) ?_
            refine AllReadyH.cons (i := 11) (by rfl) ?_ AllReadyH.nil
            intro K' hK
            simp only [List.getElem_toArray, List.getElem_cons_zero, List.getElem_cons_succ]
            refine if_yes (by kernel_rfl) ?_
            go_big_op
            refine hK.out _ _ ?_ (fun hHeld2 => ?_)
            · exact hHeld.setCell (p := ⟨a2, 3, none⟩) (Nat.le_refl _) _
            clear hK K' hHeld
            have hHeld := hHeld2
            clear hHeld2
            (try simp only [List.getElem_toArray, List.getElem_cons_zero, List.getElem_cons_succ, Act.put, List.setIfInBounds_toArray, List.set_cons_zero, List.set_cons_succ])
            refine wpAnyH_done (by kernel_rfl) ?_ _
            refine NoPanic.normal ?_
            go_wp2_with fail
            go_roundw
            case rel =>
              refine ⟨k + 1, A3, c3, by omega, by go_num, ?_, O6.set 3 (.slice A3 (k + 1) c3), hb.trans hHeld, by have := hH.size; have := hbG.size; simp; omega⟩
              rw [HS.out]
              exact ownsRow_setCell_below hown' (by show a2 < _; omega) _
            case measure => simp [intOf]; omega
        · skip
          intro K' hK
          simp only [List.getElem_toArray, List.getElem_cons_zero, List.getElem_cons_succ]
          refine if_yes (by kernel_rfl) ?_
          go_big_op
          refine hK.out _ _ ?_ (fun hHeld2 => ?_)
          · exact hHeld.alloc (by have := hH.size; omega) _
          clear hK K' hHeld
          have hHeld := hHeld2
          clear hHeld2
          (try simp only [List.getElem_toArray, List.getElem_cons_zero, List.getElem_cons_succ, Act.put, List.setIfInBounds_toArray, List.set_cons_zero, List.set_cons_succ])
          have hfr := Reads.freshAs w2 #[.int .i64 op, .int .i64 a, .int .i64 b, .int .i64 c', .int .u64 (U kk)] 53 5 1 [.int .i64 op, .int .i64 a, .int .i64 b, .int .i64 c', .int .u64 (U kk)] rfl rfl (by decide)
          have o3 := (keep_cell (keep_alloc (Below.refl w2.heap.size w2) (.cells #[.int .i64 op, .int .i64 a, .int .i64 b, .int .i64 c', .int .u64 (U kk)] 53)) o3)
          have hH := keep_alloc hH (.cells #[.int .i64 op, .int .i64 a, .int .i64 b, .int .i64 c', .int .u64 (U kk)] 53)
          refine wpAnyH_ready (rs := [1]) (by kernel_rfl) (by simp) ?_
          refine AllReadyH.cons (i := 1) (by rfl) ?_ (AllReadyH.nil)
          · skip
            intro K' hK
            simp only [List.getElem_toArray, List.getElem_cons_zero, List.getElem_cons_succ]
            refine if_yes (by kernel_rfl) ?_
            go_big_op
            refine hK.out _ _ ?_ (fun hHeld2 => ?_)
            · exact hHeld
            clear hK K' hHeld
            have hHeld := hHeld2
            clear hHeld2
            (try simp only [List.getElem_toArray, List.getElem_cons_zero, List.getElem_cons_succ, Act.put, List.setIfInBounds_toArray, List.set_cons_zero, List.set_cons_succ])
            refine wpAnyH_ready (rs := [9]) (by kernel_rfl) (by simp) ?_
            refine AllReadyH.cons (i := 9) (by rfl) ?_ AllReadyH.nil
            have hownC := own_keep hown hH
            intro K' hK
            refine step_app rfl _ _ _ (by rfl) tyMIns (by rfl) hownC (by rfl) hfr (by simp [Value.oneCell']) q1' q2' (by have := hH.size; omega) ?_; intro v' w6 hown' hbG; obtain ⟨A3, c3, rfl, -⟩ := Reads.own hown'
            refine hK.out _ _ ?_ (fun hHeld2 => ?_)
            · exact hHeld.trans (hbG.mono (by omega))
            clear hK K' hHeld
            have hHeld := hHeld2
            clear hHeld2
            (try simp only [List.getElem_toArray, List.getElem_cons_zero, List.getElem_cons_succ, Act.put, List.setIfInBounds_toArray, List.set_cons_zero, List.set_cons_succ])
            have O6 := (O.below hH).belowB hbG (by omega)
            have o6 := O6.cell 3 _ rfl
            have e6 := O6.free
            refine wpAnyH_take (i := 10) (v := ?_) rfl (by kernel_rfl) (by kernel_rfl) (by kernel_rfl) (fun _ _ _ h => h) (Or.inl ⟨by rfl, ?_⟩) (by assumption) ?_
            rotate_left
            · intro wq hSw; clear hSw; go_simp; (try with_reducible rfl)
            (try simp only [List.getElem_toArray, List.getElem_cons_zero, List.getElem_cons_succ, Act.put, List.setIfInBounds_toArray, List.set_cons_zero, List.set_cons_succ])
            refine wpAnyH_ready (rs := [11]) (by kernel_rfl) (by simp) ?_
            refine AllReadyH.cons (i := 11) (by rfl) ?_ AllReadyH.nil
            intro K' hK
            simp only [List.getElem_toArray, List.getElem_cons_zero, List.getElem_cons_succ]
            refine if_yes (by kernel_rfl) ?_
            go_big_op
            refine hK.out _ _ ?_ (fun hHeld2 => ?_)
            · exact hHeld.setCell (p := ⟨a2, 3, none⟩) (Nat.le_refl _) _
            clear hK K' hHeld
            have hHeld := hHeld2
            clear hHeld2
            (try simp only [List.getElem_toArray, List.getElem_cons_zero, List.getElem_cons_succ, Act.put, List.setIfInBounds_toArray, List.set_cons_zero, List.set_cons_succ])
            refine wpAnyH_done (by kernel_rfl) ?_ _
            refine NoPanic.normal ?_
            go_wp2_with fail
            go_roundw
            case rel =>
              refine ⟨k + 1, A3, c3, by omega, by go_num, ?_, O6.set 3 (.slice A3 (k + 1) c3), hb.trans hHeld, by have := hH.size; have := hbG.size; simp; omega⟩
              rw [HS.out]
              exact ownsRow_setCell_below hown' (by show a2 < _; omega) _
            case measure => simp [intOf]; omega
    · have hkm : k = m := by omega
      subst hkm
      have hd : decide ((k : Int) < (k : Int)) = false := by simp
      have hd2 : decide (k < k) = false := by simp
      rw [List.take_of_length_le (by rw [HL.out]; omega)] at hown
      have R1 := R0.belowB hb (by omega)
      have r0 := R1.cell 0 _ rfl
      have r1 := R1.cell 1 _ rfl
      have r2 := R1.cell 2 _ rfl
      have r3 := R1.cell 3 _ rfl
      have fr := R1.free
      have o0 := O.cell 0 _ rfl
      have o1 := O.cell 1 _ rfl
      have o2 := O.cell 2 _ rfl
      have o3 := O.cell 3 _ rfl
      have hBr := hB0.trans (hb.mono (show g ≤ a2 by omega))
      obtain ⟨A3, c3, e3, hr3⟩ := Reads.own hown
      injection e3 with x1 x2 x3
      subst x1 x3
      have hr4 := hr3.below (B := wr.heap.size) (w' := wr) (Below.refl _ _)
      have hown2 := ownsRow_setCell_below (ownsRow_setCell_below (ownsRow_setCell_below (ownsRow_setCell_below hown (a := ⟨g + 1, 0, none⟩) (by show g + 1 < _; omega) (.int .i64 p)) (a := ⟨g + 1, 1, none⟩) (by show g + 1 < _; omega) (.slice A n c)) (a := ⟨g + 1, 2, none⟩) (by show g + 1 < _; omega) (.int .i64 r)) (a := ⟨g + 1, 3, none⟩) (by show g + 1 < _; omega) (.slice A' k e')
      obtain ⟨A4, c4, e4, hr5⟩ := Reads.own hown2
      injection e4 with x1 x2 x3
      subst x1 x3
      have HR := Lib.hid hr5
      clear hown hown2 hr3 hr4 hr5
      go_wp2_with fail
      refine bodyPost_ret (v := fnV p A n c r A' k e') (by simp [results, Tryd.results13, go_sem, r0, r1, r2, r3]) rfl ?_
      exact ⟨A', e', by rw [HL.out], by rw [HL.out]; exact HR.out, by rw [HG.out]; exact (((hBr.setCell (p := ⟨g + 1, 0, none⟩) (Nat.le_succ g) _).setCell (p := ⟨g + 1, 1, none⟩) (Nat.le_succ g) _).setCell (p := ⟨g + 1, 2, none⟩) (Nat.le_succ g) _).setCell (p := ⟨g + 1, 3, none⟩) (Nat.le_succ g) _⟩
end Go.Proofs.YtnnchinpmnpfiaaDoor

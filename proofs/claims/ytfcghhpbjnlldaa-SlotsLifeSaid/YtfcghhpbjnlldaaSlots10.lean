/- The contract of the reference of Refs. -/
import Derived.Test.YtfcghhpbjnlldaaSlots9
namespace Go.Proofs.Ytfcghhpbjnlldaa
open Go.RowKit Words

theorem rrefs_any (A : Option Addr) (n c : Nat) (l : List Ent) (w : World) (h : Reads w w.heap.size 3 A n c (l.flatMap entCells)) (hn : n ≤ 1000000) :
    Calls Try.prog 14 #[tabV A n c] w (RetL w (refsW l)) := by
  have hlen := h.length entCells_len (by omega)
  have hcap := h.cap
  have hle := h.le
  unfold maxLen at hcap
  have hW := tab_alloc w A n c
  have c0 : (w.alloc (.cells #[.slice A n c] 24)).cell? ⟨w.heap.size, 0, none⟩ = some (.slice A n c) := (Blk.new w #[.slice A n c] 24).cell 0 _ rfl
  obtain ⟨w1, hw1⟩ : ∃ w1, w.alloc (.cells #[.slice A n c] 24) = w1 := ⟨_, rfl⟩
  have hs1 : w1.heap.size = w.heap.size + 1 := by rw [← hw1]; simp
  have hr0 : validT l = false → refsW l = [] := fun hv => by unfold refsW; rw [hv]; rfl
  have hr1 : validT l = true → refsW l = liveRefs l := fun hv => by unfold refsW; rw [hv]; rfl
  have HL := Lib.hid hlen
  have HR0 := Lib.hid hr0
  have HR1 := Lib.hid hr1
  clear hlen hr0 hr1
  go_enter Try.func14, Try.ntmps14
  go_wp2_with fail
  rw [hw1] at c0 hW
  have a1 := h.below hW
  have HW1 := Lib.hid hw1
  clear hw1
  go_loopw [3, 4] (fun v x wq => ∃ k : Nat, k ≤ n ∧ x = .int .i64 k ∧ wq.ownsRow w1.heap.size 28 1 v (liveRefs (l.take k)).length ((liveRefs (l.take k)).flatMap wordCells) ∧ Below w1.heap.size w1 wq ∧ (k = 0 ∨ validT l = true)) (fun _ x _ => n - (intOf x).toNat)
  case atStart => exact ⟨0, Nat.zero_le _, rfl, World.ownsRow_nil _ _ _ _, Below.refl _ _, Or.inl rfl⟩
  case round =>
    obtain ⟨k, hk, rfl, hown, hbr, hor⟩ := hrel
    have hsz := hbr.size
    have hll := liveRefs_le (l.take k)
    rw [List.length_take] at hll
    have q0 : wr.cell? ⟨w.heap.size, 0, none⟩ = some (.slice A n c) := keep_cell hbr c0
    have hB1 : Below w.heap.size w wr := hW.trans (hbr.mono (by omega))
    have ar := (h.below hB1).more (B' := wr.heap.size) hB1.size
    have HO := Lib.hid hor
    clear hor
    by_cases hlt : k < n
    · by_cases hv : validT l = true
      · have HV := Lib.hid hv
        clear hv
        obtain ⟨b, off, x, rfl, hbb, hx, hc⟩ := (h.below hB1).elem entCells_len (by omega) hlt
        have d1 := hc 1 _ rfl
        have d2 := hc 2 _ rfl
        have hsn := liveRefs_snoc (l.take k) x
        rw [← take_next hx] at hsn
        have hk0 : (0 : Int) ≤ (k : Int) := by omega
        have hk1 : (k : Int) < (n : Int) := by omega
        clear hc hx
        obtain ⟨g, r, lv⟩ := x
        dsimp only at d1 d2 hsn
        cases lv
        · simp only [Bool.false_eq_true, if_false, List.append_nil] at hsn
          have HS := Lib.hid hsn
          clear hsn
          go_wp2_with (go_at_call 11; refine (rvalid_any _ _ _ _ _ ar).mono ?_; rintro e w2 ⟨rfl, hb⟩; rw [HV.out]; have q1 := keep_cell hb q0; have e1 := keep_cell hb d1; have e2 := keep_cell hb d2)
          go_roundw
          case rel => exact ⟨k + 1, by omega, by go_num, by rw [HS.out]; exact own_keep hown hb, keep_below hb hbr, Or.inr HV.out⟩
          case measure => simp [intOf]; omega
        · simp only [if_true] at hsn
          have HS := Lib.hid hsn
          have q1 : (liveRefs (l.take k)).length + 1 ≤ maxLen := by unfold maxLen; omega
          have q2 : ((liveRefs (l.take k)).length + 1) * 8 ≤ 140737488355328 := by omega
          clear hsn
          go_wp2_with (first | (go_at_call 11; refine (rvalid_any _ _ _ _ _ ar).mono ?_; rintro e w2 ⟨rfl, hb⟩; rw [HV.out]; have q3 := keep_cell hb q0; have e1 := keep_cell hb d1; have e2 := keep_cell hb d2; have hown2 := own_keep hown hb; have hs2 := hb.size) | (at_builtin; refine wpList_app rfl _ _ _ rfl tyWords rfl (hown2.alloc _) rfl (Reads.fresh _ _ _ 1 1 rfl (by decide)) (by simp [Value.oneCell']) q1 q2 (by simp; omega) ?_; intro v' w3 hown' hb'))
          go_roundw
          case rel =>
            refine ⟨k + 1, by omega, by go_num, ?_, ((keep_below hb hbr).alloc (by omega) _).trans hb', Or.inr HV.out⟩
            rw [HS.out, List.flatMap_append, List.length_append]
            exact hown'
          case measure => simp [intOf]; omega
      · simp only [Bool.not_eq_true] at hv
        have HV := Lib.hid hv
        have hk0 : k = 0 := by
          rcases HO.out with h | h
          · exact h
          · rw [hv] at h; cases h
        subst hk0
        clear hv
        go_wp2_with (go_at_call 11; refine (rvalid_any _ _ _ _ _ ar).mono ?_; rintro e w2 ⟨rfl, hb⟩; rw [HV.out]; have q1 := keep_cell hb q0)
        go_ret
        have hown2 := own_keep hown hb
        obtain ⟨A', c', rfl, hr'⟩ := Reads.own hown2
        rw [HR0.out HV.out]
        exact ⟨_, _, rfl, hr', keep_below hb hB1⟩
    · have ht : l.take k = l := List.take_of_length_le (by rw [HL.out]; omega)
      rw [ht] at hown
      obtain ⟨A', c', rfl, hr'⟩ := Reads.own hown
      have hfin : RetL w (refsW l) (.returned (.slice A' (liveRefs l).length c')) wr := by
        by_cases hv : validT l = true
        · rw [HR1.out hv]
          exact ⟨_, _, rfl, hr', hB1⟩
        · simp only [Bool.not_eq_true] at hv
          rcases HO.out with h0 | h0
          · have : l = [] := List.eq_nil_of_length_eq_zero (by rw [HL.out]; omega)
            subst this
            cases hv
          · rw [hv] at h0; cases h0
      have HF := Lib.hid hfin
      clear hfin
      go_wp2_with fail
      go_ret
      exact HF.out
end Go.Proofs.Ytfcghhpbjnlldaa

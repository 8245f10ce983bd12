/- The contract of slots.Refs. -/
import Derived.Test.YtfcghhpbjnlldaaSlots8
namespace Go.Proofs.Ytfcghhpbjnlldaa
open Go.RowKit Words

def liveRefs : List Ent → List (BitVec 64)
  | [] => []
  | x :: r => if x.live = true then x.ref :: liveRefs r else liveRefs r
def refsW (l : List Ent) : List (BitVec 64) := if validT l = true then liveRefs l else []
theorem liveRefs_snoc (a : List Ent) (x : Ent) : liveRefs (a ++ [x]) = liveRefs a ++ (if x.live = true then [x.ref] else []) := by
  induction a with
  | nil => simp [liveRefs]
  | cons y r ih =>
    rw [List.cons_append, liveRefs, liveRefs, ih]
    split <;> rfl
theorem liveRefs_le (a : List Ent) : (liveRefs a).length ≤ a.length := by
  induction a with
  | nil => simp [liveRefs]
  | cons y r ih =>
    rw [liveRefs]
    split
    · simp; omega
    · simp; omega
theorem take_next {α : Type} {l : List α} {k : Nat} {a : α} (h : l[k]? = some a) : l.take (k + 1) = l.take k ++ [a] := by
  rw [List.take_add_one, h]
  rfl
def RetL (w : World) (r : List (BitVec 64)) (e : Ending) (w' : World) : Prop :=
  ∃ A c, e = .returned (.slice A r.length c) ∧ Reads w' w'.heap.size 1 A r.length c (r.flatMap wordCells) ∧ Below w.heap.size w w'

theorem refs_any (A : Option Addr) (n c : Nat) (l : List Ent) (w : World) (h : Reads w w.heap.size 3 A n c (l.flatMap entCells)) (hn : n ≤ 1000000) :
    Calls Try.prog 13 #[tabV A n c] w (RetL w (refsW l)) := by
  have hlen := h.length entCells_len (by omega)
  have hcap := h.cap
  have hle := h.le
  unfold maxLen at hcap
  have hW := tab_alloc w A n c
  have c0 : (w.alloc (.cells #[.slice A n c] 24)).cell? ⟨w.heap.size, 0, none⟩ = some (.slice A n c) := (Blk.new w #[.slice A n c] 24).cell 0 _ rfl
  have ha := (h.below hW).more (B' := (w.alloc (.cells #[.slice A n c] 24)).heap.size) (by simp)
  by_cases hv : validT l = true
  · have hr : refsW l = liveRefs l := by unfold refsW; rw [if_pos hv]
    rw [hr]
    have HV := Lib.hid hv
    have HL := Lib.hid hlen
    clear hv hr hlen
    go_enter Try.func13, Try.ntmps13
    go_wp2_with (go_at_call 10; refine (valid_any _ _ _ _ _ ha).mono ?_; rintro e w1 ⟨rfl, hb⟩; rw [HV.out]; have q0 := keep_cell hb c0)
    have hB1 : Below w.heap.size w w1 := hW.trans (hb.mono (by simp))
    have h1 := h.below hB1
    have hs1 := hB1.size
    go_loopw [3, 12] (fun v x wq => ∃ k : Nat, k ≤ n ∧ x = .int .i64 k ∧ wq.ownsRow w1.heap.size 28 1 v (liveRefs (l.take k)).length ((liveRefs (l.take k)).flatMap wordCells) ∧ Below w1.heap.size w1 wq) (fun _ x _ => n - (intOf x).toNat)
    case atStart => exact ⟨0, Nat.zero_le _, rfl, World.ownsRow_nil _ _ _ _, Below.refl _ _⟩
    case round =>
      obtain ⟨k, hk, rfl, hown, hbr⟩ := hrel
      have hsz := hbr.size
      have hll := liveRefs_le (l.take k)
      rw [List.length_take] at hll
      by_cases hlt : k < n
      · obtain ⟨b, off, x, rfl, hbb, hx, hc⟩ := (h1.below (hbr.mono hs1)).elem entCells_len (by omega) hlt
        have d0 := hc 0 _ rfl
        have d1 := hc 1 _ rfl
        have d2 := hc 2 _ rfl
        rw [Nat.add_zero] at d0
        have hsn := liveRefs_snoc (l.take k) x
        rw [← take_next hx] at hsn
        have hk0 : (0 : Int) ≤ (k : Int) := by omega
        have hk1 : (k : Int) < (n : Int) := by omega
        clear hc hx
        obtain ⟨g, r, lv⟩ := x
        dsimp only at d0 d1 d2 hsn
        cases lv
        · simp only [Bool.false_eq_true, if_false, List.append_nil] at hsn
          have HS := Lib.hid hsn
          clear hsn
          go_wp2_with fail
          go_roundw
          case rel => exact ⟨k + 1, by omega, by go_num, by rw [HS.out]; exact hown.alloc _, hbr.alloc hsz _⟩
          case measure => simp [intOf]; omega
        · simp only [if_true] at hsn
          have HS := Lib.hid hsn
          have q1 : (liveRefs (l.take k)).length + 1 ≤ maxLen := by unfold maxLen; omega
          have q2 : ((liveRefs (l.take k)).length + 1) * 8 ≤ 140737488355328 := by omega
          have hfr := Reads.freshAt (wr.alloc (.cells #[.int .i64 g, .int .u64 (U r), .bool true] 30)) #[.int .u64 (U r)] 28 1 1 [.int .u64 (U r)] (wr.heap.size + 1) (by simp) rfl rfl (by decide)
          clear hsn
          go_wp2_with (at_builtin; refine wpList_app rfl _ _ _ rfl tyWords rfl ((hown.alloc _).alloc _) rfl hfr (by simp [Value.oneCell']) q1 q2 (by simp; omega) ?_; intro v' w3 hown' hb')
          go_roundw
          case rel =>
            refine ⟨k + 1, by omega, by go_num, ?_, ((hbr.alloc hsz _).alloc (by simp; omega) _).trans hb'⟩
            rw [HS.out, List.flatMap_append, List.length_append]
            exact hown'
          case measure => simp [intOf]; omega
      · have ht : l.take k = l := List.take_of_length_le (by rw [HL.out]; omega)
        rw [ht] at hown
        obtain ⟨A', c', rfl, hr'⟩ := Reads.own hown
        go_wp2_with fail
        go_ret
        exact ⟨_, _, rfl, hr', keep_below hbr hB1⟩
  · have hr : refsW l = [] := by unfold refsW; rw [if_neg hv]
    rw [hr]
    simp only [Bool.not_eq_true] at hv
    have HV := Lib.hid hv
    clear hv hr hlen
    go_enter Try.func13, Try.ntmps13
    go_wp2_with (go_at_call 10; refine (valid_any _ _ _ _ _ ha).mono ?_; rintro e w1 ⟨rfl, hb⟩; rw [HV.out]; have q0 := keep_cell hb c0)
    go_ret
    exact ⟨none, 0, rfl, Reads.nil, hW.trans (hb.mono (by simp))⟩
end Go.Proofs.Ytfcghhpbjnlldaa

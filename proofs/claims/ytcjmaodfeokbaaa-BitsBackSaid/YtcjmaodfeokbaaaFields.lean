/- The contract of the laws' fields: the fields as the program has them. -/
import Derived.Test.YtcjmaodfeokbaaaRef
namespace Go.Proofs.Ytcjmaodfeokbaaa
open Go.RowKit Words

theorem tyFields : SlTy Try.prog 30 47 2 16 := SlTy.mk' (z := .agg #[.int .i64 0, .int .u64 0]) Try.underlying30 (by kernel_rfl) rfl (by omega)

theorem fields_any (A : Option Addr) (n c : Nat) (l : List (Int × BitVec 64)) (w : World) (h : Reads w w.heap.size 2 A n c (l.flatMap fieldCells)) (hsmall : n ≤ 1000000) :
    Calls Try.prog 13 #[.slice A n c] w fun e w' => ∃ A' c', e = .returned (.slice A' n c') ∧ Reads w' w'.heap.size 2 A' n c' (l.flatMap fieldCells) ∧ Below w.heap.size w w' := by
  have hlen := h.length (fun _ => rfl) (by omega)
  have hcap := h.cap
  have hle := h.le
  unfold maxLen at hcap
  have HL := Lib.hid hlen
  clear hlen
  go_enter Try.func13, Try.ntmps13
  go_wp2_with fail
  go_loopw [3, 4] (fun v i wr => ∃ (k : Nat) (acc : List (Int × BitVec 64)), k ≤ n ∧ i = .int .i64 k ∧ acc.length = k ∧ wr.ownsRow w.heap.size 47 2 v k (acc.flatMap fieldCells) ∧ Below w.heap.size w wr ∧ l = acc ++ l.drop k) (fun _ i _ => n - (intOf i).toNat)
  case atStart => exact ⟨0, [], Nat.zero_le _, rfl, rfl, World.ownsRow_nil _ _ _ _, Below.refl _ _, rfl⟩
  case round =>
    obtain ⟨k, acc, hk, rfl, hacc, hown, hb, hspec⟩ := hrel
    have hsz := hb.size
    by_cases hlt : k < n
    · obtain ⟨b, off, a, rfl, hbb, ha, hc⟩ := (h.below hb).elem (fun _ => rfl) (by omega) hlt
      have c0 := hc 0 _ rfl
      have c1 := hc 1 _ rfl
      rw [Nat.add_zero] at c0
      rw [drop_at ha] at hspec
      have H := Lib.hid hspec
      have HA := Lib.hid hacc
      clear hspec ha hc hacc
      have hk0 : (0 : Int) ≤ (k : Int) := by omega
      have hk1 : (k : Int) < (n : Int) := by omega
      have hbw : b < wr.heap.size := by omega
      have q1 : k + 1 ≤ maxLen := by unfold maxLen; omega
      have q2 : (k + 1) * 16 ≤ 140737488355328 := by omega
      go_wp2_with fail
      go_region_held3 (fun w' => w'.cell? ⟨b, off + k * 2, none⟩ = some (.int .i64 a.1) ∧ w'.cell? ⟨b, off + k * 2 + 1, none⟩ = some (.int .u64 (U a.2)))
        (first | go_keep | (go_split_ands; refine ⟨?_, ?_⟩ <;> (rw [hb1.cell (by exact hbb)]; assumption)))
        ((refine step_app rfl _ _ _ (by rfl) tyFields (by rfl) ((hown.alloc _).drew) (by rfl) (Reads.fresh wr _ _ 2 1 rfl (by decide)).drew (by simp [Value.oneCell']) q1 q2 (by simp; omega) ?_; intro v' w1 hown1 hb1))
      go_wp2
      go_roundw
      case rel =>
        refine ⟨k + 1, acc ++ [a], by omega, by go_num, by rw [List.length_append, HA.out]; rfl, ?_, ?_, ?_⟩
        · rw [List.flatMap_append]; exact hown1
        · exact ((hb.alloc hsz _).drew).trans hb1
        · rw [List.append_assoc]; exact H.out
      case measure => simp [intOf]; omega
    · have hend := drop_end HL.out hlt
      rw [hend, List.append_nil] at hspec
      have hkn : k = n := by omega
      subst hkn
      subst hspec
      obtain ⟨A', c', rfl, hr⟩ := Reads.own hown
      go_wp2_with fail
      go_ret
      exact ⟨A', c', rfl, hr, hb⟩
end Go.Proofs.Ytcjmaodfeokbaaa

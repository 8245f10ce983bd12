/- The contract of slices.Contains at words, and what Move does. -/
import Derived.Test.YtmcdhpbkhchpeaaScope12
import Derived.Test.YtmcdhpbkhchpeaaScope11
namespace Go.Proofs.Ytmcdhpbkhchpeaa
open Go.ChangeShapes Go.WideShapes Go.RowKit Words

theorem not_mem_take {α : Type} {l : List α} {k : Nat} {x v : α} (hx : l[k]? = some x) (hne : x ≠ v) (h : v ∉ l.take k) : v ∉ l.take (k + 1) := by
  obtain ⟨hk, rfl⟩ := List.getElem?_eq_some_iff.1 hx
  rw [List.take_succ_eq_append_getElem hk, List.mem_append]
  rintro (h1 | h1)
  · exact h h1
  · rw [List.mem_singleton] at h1; exact hne h1.symm
theorem index_any (A : Option Addr) (n c : Nat) (l : List (BitVec 64)) (v : BitVec 64) (w : World) (h : Reads w w.heap.size 1 A n c (l.flatMap wordCells)) :
    Calls Try.prog 54 #[.slice A n c, .int .u64 (U v)] w fun e w' => ∃ z : Int, e = .returned (.int .i64 z) ∧ decide (0 ≤ z) = decide (v ∈ l) ∧ w = w' := by
  have hlen := h.length (fun _ => rfl) (by omega)
  have hcap := h.cap
  have hle := h.le
  unfold maxLen at hcap
  have HL := Lib.hid hlen
  clear hlen
  go_enter Try.func54, Try.ntmps54
  go_wp2_with fail
  go_loopw [8] (fun x wq => ∃ k : Nat, k ≤ n ∧ x = .int .i64 k ∧ wq = w ∧ v ∉ l.take k) (fun x _ => n - (intOf x).toNat)
  case atStart => exact ⟨0, Nat.zero_le _, rfl, rfl, by simp⟩
  case round =>
    obtain ⟨k, hk, rfl, rfl, hnot⟩ := hrel
    by_cases hlt : k < n
    · obtain ⟨b, off, x, rfl, hbb, hx, hc⟩ := h.elem (fun _ => rfl) (by omega) hlt
      have d0 := hc 0 _ rfl
      rw [Nat.add_zero, Nat.mul_one] at d0
      have hk0 : (0 : Int) ≤ (k : Int) := by omega
      have hk1 : (k : Int) < (n : Int) := by omega
      by_cases he : v = x
      · subst he
        have e0 : (U v == U v) = true := by simp
        have HM := Lib.hid (List.mem_of_getElem? hx)
        clear hc hx hnot
        go_wp2_with fail
        go_ret
        exact ⟨k, rfl, by rw [decide_eq_true hk0, decide_eq_true HM.out], rfl⟩
      · have e0 : (U v == U x) = false := by rw [U_eq]; simp [he]
        have HM := Lib.hid (not_mem_take hx (fun e => he e.symm) hnot)
        clear hc hx hnot he
        go_wp2_with fail
        go_roundw
        case rel => exact ⟨k + 1, by omega, by go_num, by first | rfl | trivial, HM.out⟩
        case measure => simp [intOf]; omega
    · obtain rfl : k = n := by omega
      have HM := Lib.hid (show v ∉ l by rw [← List.take_length (l := l), HL.out]; exact hnot)
      clear hnot
      go_wp2_with fail
      go_ret
      exact ⟨-1, rfl, by rw [decide_eq_false HM.out]; rfl, rfl⟩
theorem contains_any (A : Option Addr) (n c : Nat) (l : List (BitVec 64)) (v : BitVec 64) (w : World) (h : Reads w w.heap.size 1 A n c (l.flatMap wordCells)) :
    Calls Try.prog 47 #[.slice A n c, .int .u64 (U v)] w fun e w' => e = .returned (.bool (decide (v ∈ l))) ∧ w = w' := by
  go_enter Try.func47, Try.ntmps47
  go_wp2_with fail
  refine (index_any A n c l v w h).mono ?_
  rintro e w1 ⟨z, rfl, hz, rfl⟩
  have HZ := Lib.hid hz
  clear hz
  go_wp2_with fail
  go_ret
  exact ⟨by rw [HZ.out]; rfl, rfl⟩

/-- the references of the handles that live, changed -/
def fill : List Sl → List (BitVec 64) → List Sl
  | [], _ => []
  | x :: r, rs => if x.live = true then ⟨x.stamp, rs.headD 0#64, true⟩ :: fill r rs.tail else x :: fill r rs
theorem fill_len (l : List Sl) (rs : List (BitVec 64)) : (fill l rs).length = l.length := by
  induction l generalizing rs with
  | nil => rfl
  | cons x r ih =>
    rw [fill]
    split
    · rw [List.length_cons, ih, List.length_cons]
    · rw [List.length_cons, ih, List.length_cons]
def moveL (x : Lc) (rs : List (BitVec 64)) : Lc × Int := if x.valid = false ∨ (liveRefs x.s).length ≠ rs.length ∨ 0#64 ∈ rs then (Lc.nil, 1) else (⟨fill x.s rs, x.p, x.i⟩, 0)
theorem moveL_no {x : Lc} {rs : List (BitVec 64)} (h : x.valid = false ∨ (liveRefs x.s).length ≠ rs.length ∨ 0#64 ∈ rs) : moveL x rs = (Lc.nil, 1) := by unfold moveL; rw [if_pos h]
theorem moveL_ok {x : Lc} {rs : List (BitVec 64)} (h : ¬ (x.valid = false ∨ (liveRefs x.s).length ≠ rs.length ∨ 0#64 ∈ rs)) : moveL x rs = (⟨fill x.s rs, x.p, x.i⟩, 0) := by unfold moveL; rw [if_neg h]
theorem set_mid (P : List Sl) (x y : Sl) (r : List Sl) (k : Nat) (hk : P.length = k) : (P ++ x :: r).set k y = (P ++ [y]) ++ r := by
  subst hk
  rw [List.set_append_right _ _ (Nat.le_refl _), Nat.sub_self, List.set_cons_zero, List.append_assoc]
  rfl
theorem at_mid (P : List Sl) (x : Sl) (r : List Sl) (k : Nat) (hk : P.length = k) : (P ++ x :: r)[k]? = some x := by
  subst hk
  rw [List.getElem?_append_right (Nat.le_refl _), Nat.sub_self]
  rfl
theorem Reads.empty0 {w : World} {B : Nat} (A : Option Addr) : Reads w B 1 A 0 0 (([] : List (BitVec 64)).flatMap wordCells) := ⟨rfl, Nat.le_refl _, Nat.zero_le _, fun _ => rfl, fun h => absurd h (by omega)⟩
/-- the rest of a slice of words -/
theorem Reads.tail1 {w : World} {B n c b off : Nat} {a : BitVec 64} {r : List (BitVec 64)} (h : Reads w B 1 (some ⟨b, off, none⟩) n c ((a :: r).flatMap wordCells)) :
    Reads w B 1 (some ⟨b, off + 1, none⟩) (n - 1) (c - 1) (r.flatMap wordCells) := by
  have hl := h.length (fun _ => rfl) (by omega)
  rw [List.length_cons] at hl
  have hle := h.le
  have hcap := h.cap
  refine ⟨by rw [flat_len wordCells 1 (fun _ => rfl)]; omega, by omega, by omega, (fun h => by cases h), fun hn => ?_⟩
  obtain ⟨b', off', he, hb, hc⟩ := h.at_ (by omega)
  simp only [Option.some.injEq, Addr.mk.injEq, and_true] at he
  obtain ⟨rfl, rfl⟩ := he
  refine ⟨b, off + 1, rfl, hb, fun j u hu => ?_⟩
  have := hc (j + 1) u (by rw [List.flatMap_cons]; simpa [wordCells] using hu)
  rw [show off + 1 + j = off + (j + 1) by omega]
  exact this
end Go.Proofs.Ytmcdhpbkhchpeaa

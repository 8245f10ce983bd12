/- The program's rank; functions given to the program under test. -/
import Derived.Test.YtnnchinpmnpfiaaDoorM3
namespace Go.Proofs.YtnnchinpmnpfiaaDoor
open Go.ChangeShapes Go.WideShapes Go.RowKit Words

theorem Reads.pre {α : Type} {f : α → List Value} {w : World} {B s n c : Nat} {A : Option Addr} {l : List α} (h : Reads w B s A n c (l.flatMap f)) (hs : ∀ a, (f a).length = s) (h0 : 0 < s) {k : Nat} (hk : k ≤ n) : Reads w B s A k c ((l.take k).flatMap f) := by
  have hl := h.length hs h0
  have hle := h.le
  refine ⟨by rw [flat_len f s hs, List.length_take]; congr 1; omega, by omega, h.cap, h.none_, fun hk0 => ?_⟩
  obtain ⟨b, off, hA, hb, hc⟩ := h.at_ (by omega)
  refine ⟨b, off, hA, hb, fun j u hu => hc j u ?_⟩
  have e : l.flatMap f = (l.take k).flatMap f ++ (l.drop k).flatMap f := by rw [← List.flatMap_append, List.take_append_drop]
  rw [e, List.getElem?_append_left (List.getElem?_eq_some_iff.1 hu).1]
  exact hu
theorem rank_ref (l : List Int) : rankL l = (l.filter refB).length := rfl
set_option maxHeartbeats 1000000 in
theorem rank_any (p : Int) (A : Option Addr) (n c : Nat) (r : Int) (B : Option Addr) (m d : Nat) (l : List Int) (i : Int) (w : World) (h : Reads w w.heap.size 1 A n c (l.flatMap intCells)) (hn : n ≤ 1000000) :
    Calls Tryd.prog 18 #[fnV p A n c r B m d, .int .i64 i] w fun e w' => e = .returned (.int .i64 (rankL (l.take i.toNat))) ∧ Below w.heap.size w w' := by
  have hlen := h.length (f := intCells) (fun _ => rfl) (by omega)
  have hB0 : Below w.heap.size w (w.alloc (.cells #[.int .i64 p, .slice A n c, .int .i64 r, .slice B m d] 49)) := keep_alloc (Below.refl _ _) _
  have h1 := h.belowU hB0
  have hle := h.le
  have HL := Lib.hid hlen
  clear hlen h
  by_cases h0 : i < 0
  · have hd : decide (i < 0) = true := decide_eq_true h0
    have hi0 : i.toNat = 0 := by omega
    have hrd := (h1.pre (f := intCells) (fun _ => rfl) (by omega) (k := 0) (by omega))
    have HV := Lib.hid (show rankL (l.take i.toNat) = ((l.take 0).filter refB).length from by rw [rank_ref]; rw [hi0])
    go_enter Tryd.func18, Tryd.ntmps18
    go_wp2_with fail
    refine (cntR_any A 0 c (l.take 0) _ hrd (by omega)).mono ?_
    rintro e w2 ⟨rfl, hb2⟩
    go_wp2_with fail
    go_ret
    exact ⟨by rw [HV.out]; rfl, keep_below hb2 hB0⟩
  obtain ⟨j, rfl⟩ : ∃ j : Nat, i = j := ⟨i.toNat, by omega⟩
  by_cases hj : j ≤ n
  · have hd : decide ((j : Int) < 0) = false := decide_eq_false h0
    have hjn : decide ((j : Int) ≤ (n : Int)) = true := decide_eq_true (by omega)
    have hjn2 : ¬ ((n : Int) < (j : Int)) := by omega
    have hjc : (j : Int) ≤ (c : Int) := by omega
    have hj0 : (0 : Int) ≤ (j : Int) := by omega
    have hrd := (h1.pre (f := intCells) (fun _ => rfl) (by omega) (k := j) (by omega))
    have HV := Lib.hid (show rankL (l.take (j : Int).toNat) = ((l.take j).filter refB).length from by rw [rank_ref]; rw [Int.toNat_natCast])
    go_enter Tryd.func18, Tryd.ntmps18
    go_wp2_with fail
    refine (cntR_any A j c (l.take j) _ hrd (by omega)).mono ?_
    rintro e w2 ⟨rfl, hb2⟩
    go_wp2_with fail
    go_ret
    exact ⟨by rw [HV.out]; rfl, keep_below hb2 hB0⟩
  · have hd : decide ((j : Int) < 0) = false := decide_eq_false h0
    have hjn : decide ((j : Int) ≤ (n : Int)) = false := decide_eq_false (by omega)
    have hjn2 : (n : Int) < (j : Int) := by omega
    have hjc : (n : Int) ≤ (c : Int) := by omega
    have hj0 : (0 : Int) ≤ (n : Int) := by omega
    have hrd := (h1.pre (f := intCells) (fun _ => rfl) (by omega) (k := n) (by omega))
    have HV := Lib.hid (show rankL (l.take (j : Int).toNat) = ((l.take n).filter refB).length from by rw [rank_ref]; rw [Int.toNat_natCast, List.take_of_length_le (show l.length ≤ j by have := HL.out; omega), List.take_of_length_le (show l.length ≤ n by have := HL.out; omega)])
    go_enter Tryd.func18, Tryd.ntmps18
    go_wp2_with fail
    refine (cntR_any A n c (l.take n) _ hrd (by omega)).mono ?_
    rintro e w2 ⟨rfl, hb2⟩
    go_wp2_with fail
    go_ret
    exact ⟨by rw [HV.out]; rfl, keep_below hb2 hB0⟩
end Go.Proofs.YtnnchinpmnpfiaaDoor

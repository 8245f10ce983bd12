/- Counting by a property: the numbers. Printed by mk_m3.py. -/
import Derived.Test.YtnnchinpmnpfiaaDoorM2
namespace Go.Proofs.YtnnchinpmnpfiaaDoor
open Go.ChangeShapes Go.WideShapes Go.RowKit Words

def typedB (k : Int) : Bool := decide (k = 1 ∨ k = 2)
def fewB (k : Int) : Bool := decide (0 ≤ k ∧ k ≤ 3)
def byteB (k : Int) : Bool := decide (0 ≤ k ∧ k ≤ 255)
def refB (k : Int) : Bool := decide (k = 2)
theorem typed_any (k : Int) (w : World) : Calls Tryd.prog 47 #[.int .i64 k] w fun e w' => e = .returned (.bool (typedB k)) ∧ Below w.heap.size w w' := by
  by_cases h1 : k = 1
  · subst h1
    go_enter Tryd.func47, Tryd.ntmps47
    go_wp2_with fail
    go_ret
    exact ⟨rfl, Below.refl _ _⟩
  by_cases h2 : k = 2
  · subst h2
    go_enter Tryd.func47, Tryd.ntmps47
    go_wp2_with fail
    go_ret
    exact ⟨rfl, Below.refl _ _⟩
  have t1 : (k == 1) = false := beq_false_of_ne h1
  have t2 : (k == 2) = false := beq_false_of_ne h2
  have HV := Lib.hid (show typedB k = false from decide_eq_false (by omega))
  go_enter Tryd.func47, Tryd.ntmps47
  go_wp2_with fail
  go_ret
  exact ⟨by rw [HV.out]; rfl, Below.refl _ _⟩
theorem isref_any (k : Int) (w : World) : Calls Tryd.prog 38 #[.int .i64 k] w fun e w' => e = .returned (.bool (refB k)) ∧ Below w.heap.size w w' := by
  have HV := Lib.hid (show refB k = (k == 2) from by unfold refB; rw [Bool.eq_iff_iff, decide_eq_true_eq, beq_iff_eq])
  go_enter Tryd.func38, Tryd.ntmps38
  go_wp2_with fail
  go_ret
  exact ⟨by rw [HV.out]; rfl, Below.refl _ _⟩
theorem few_any (k : Int) (w : World) : Calls Tryd.prog 27 #[.int .i64 k] w fun e w' => e = .returned (.bool (fewB k)) ∧ Below w.heap.size w w' := by
  by_cases h1 : 0 ≤ k
  · have t1 : decide (0 ≤ k) = true := decide_eq_true h1
    have HV := Lib.hid (show fewB k = decide (k ≤ 3) from by unfold fewB; rw [Bool.eq_iff_iff, decide_eq_true_eq, decide_eq_true_eq]; omega)
    go_enter Tryd.func27, Tryd.ntmps27
    go_wp2_with fail
    go_ret
    exact ⟨by rw [HV.out]; rfl, Below.refl _ _⟩
  · have t1 : decide (0 ≤ k) = false := decide_eq_false h1
    have HV := Lib.hid (show fewB k = false from decide_eq_false (by omega))
    go_enter Tryd.func27, Tryd.ntmps27
    go_wp2_with fail
    go_ret
    exact ⟨by rw [HV.out]; rfl, Below.refl _ _⟩
theorem byte_any (k : Int) (w : World) : Calls Tryd.prog 72 #[.int .i64 k] w fun e w' => e = .returned (.bool (byteB k)) ∧ Below w.heap.size w w' := by
  by_cases h1 : 0 ≤ k
  · have t1 : decide (0 ≤ k) = true := decide_eq_true h1
    have HV := Lib.hid (show byteB k = decide (k ≤ 255) from by unfold byteB; rw [Bool.eq_iff_iff, decide_eq_true_eq, decide_eq_true_eq]; omega)
    go_enter Tryd.func72, Tryd.ntmps72
    go_wp2_with fail
    go_ret
    exact ⟨by rw [HV.out]; rfl, Below.refl _ _⟩
  · have t1 : decide (0 ≤ k) = false := decide_eq_false h1
    have HV := Lib.hid (show byteB k = false from decide_eq_false (by omega))
    go_enter Tryd.func72, Tryd.ntmps72
    go_wp2_with fail
    go_ret
    exact ⟨by rw [HV.out]; rfl, Below.refl _ _⟩
set_option maxHeartbeats 1000000 in
theorem cntT_any (A : Option Addr) (n c : Nat) (l : List Int) (w : World) (h : Reads w w.heap.size 1 A n c (l.flatMap intCells)) (hn : n ≤ 1000000) :
    Calls Tryd.prog 37 #[.slice A n c, .func (.func 47) #[] #[]] w fun e w' => e = .returned (.int .i64 ((l.filter typedB).length : Nat)) ∧ Below w.heap.size w w' := by
  have hlen := h.length (f := intCells) (fun _ => rfl) (by omega)
  have HL := Lib.hid hlen
  clear hlen
  go_enter Tryd.func37, Tryd.ntmps37
  go_wp2_with fail
  go_loopw [5, 10] (fun s x wq => ∃ k q : Nat, k ≤ n ∧ q ≤ k ∧ x = .int .i64 k ∧ s = .int .i64 q ∧ q = ((l.take k).filter typedB).length ∧ Below w.heap.size w wq) (fun _ x _ => n - (intOf x).toNat)
  case atStart => exact ⟨0, 0, Nat.zero_le _, Nat.le_refl _, rfl, rfl, rfl, Below.refl _ _⟩
  case round =>
    obtain ⟨k, q, hk, hqk, rfl, rfl, hq, hb⟩ := hrel
    have HQ := Lib.hid hq
    clear hq
    by_cases hlt : k < n
    · obtain ⟨b, off, x, rfl, hbb, hx, hc⟩ := (h.belowU hb).elem (f := intCells) (fun _ => rfl) (by omega) hlt
      have d0 := hc 0 _ rfl
      rw [Nat.mul_one, Nat.add_zero] at d0
      have hbW := hb
      have hk0 : (0 : Int) ≤ (k : Int) := by omega
      have hk1 : (k : Int) < (n : Int) := by omega
      have hd : decide ((k : Int) < (n : Int)) = true := decide_eq_true hk1
      have hd2 : decide (k < n) = true := decide_eq_true hlt
      have hw : IntKind.i64.wrap ((k : Int) + 1) = (k : Int) + 1 := IntWalk.i64_in _ (by omega)
      have hw2 : IntKind.i64.wrap ((q : Int) + 1) = (q : Int) + 1 := IntWalk.i64_in _ (by omega)
      have HX := Lib.hid hx
      clear hc hx
      go_wp2_with fail
      refine (typed_any x _).mono ?_
      cases hp : typedB x with
      | true =>
        have HP := Lib.hid hp
        clear hp
        rintro e w2 ⟨rfl, hb2⟩
        go_wp2_with fail
        go_roundw
        case rel => exact ⟨k + 1, q + 1, by omega, by omega, by go_num, by go_num, by rw [take_nx' HX.out, List.filter_append, List.length_append, ← HQ.out, List.filter_cons_of_pos HP.out]; rfl, keep_below hb2 hbW⟩
        case measure => simp [intOf]; omega
      | false =>
        have HP := Lib.hid hp
        clear hp
        rintro e w2 ⟨rfl, hb2⟩
        go_wp2_with fail
        go_roundw
        case rel => exact ⟨k + 1, q, by omega, by omega, by go_num, rfl, by rw [take_nx' HX.out, List.filter_append, List.length_append, ← HQ.out, List.filter_cons_of_neg (by rw [HP.out]; decide)]; rfl, keep_below hb2 hbW⟩
        case measure => simp [intOf]; omega
    · have hkn : k = n := by omega
      subst hkn
      have hd : decide ((k : Int) < (k : Int)) = false := by simp
      have hd2 : decide (k < k) = false := by simp
      have HV := Lib.hid (show q = (l.filter typedB).length from by rw [HQ.out, List.take_of_length_le (by rw [HL.out]; omega)])
      go_wp2_with fail
      go_ret
      exact ⟨by rw [← HV.out]; rfl, hb⟩
set_option maxHeartbeats 1000000 in
theorem cntR_any (A : Option Addr) (n c : Nat) (l : List Int) (w : World) (h : Reads w w.heap.size 1 A n c (l.flatMap intCells)) (hn : n ≤ 1000000) :
    Calls Tryd.prog 37 #[.slice A n c, .func (.func 38) #[] #[]] w fun e w' => e = .returned (.int .i64 ((l.filter refB).length : Nat)) ∧ Below w.heap.size w w' := by
  have hlen := h.length (f := intCells) (fun _ => rfl) (by omega)
  have HL := Lib.hid hlen
  clear hlen
  go_enter Tryd.func37, Tryd.ntmps37
  go_wp2_with fail
  go_loopw [5, 10] (fun s x wq => ∃ k q : Nat, k ≤ n ∧ q ≤ k ∧ x = .int .i64 k ∧ s = .int .i64 q ∧ q = ((l.take k).filter refB).length ∧ Below w.heap.size w wq) (fun _ x _ => n - (intOf x).toNat)
  case atStart => exact ⟨0, 0, Nat.zero_le _, Nat.le_refl _, rfl, rfl, rfl, Below.refl _ _⟩
  case round =>
    obtain ⟨k, q, hk, hqk, rfl, rfl, hq, hb⟩ := hrel
    have HQ := Lib.hid hq
    clear hq
    by_cases hlt : k < n
    · obtain ⟨b, off, x, rfl, hbb, hx, hc⟩ := (h.belowU hb).elem (f := intCells) (fun _ => rfl) (by omega) hlt
      have d0 := hc 0 _ rfl
      rw [Nat.mul_one, Nat.add_zero] at d0
      have hbW := hb
      have hk0 : (0 : Int) ≤ (k : Int) := by omega
      have hk1 : (k : Int) < (n : Int) := by omega
      have hd : decide ((k : Int) < (n : Int)) = true := decide_eq_true hk1
      have hd2 : decide (k < n) = true := decide_eq_true hlt
      have hw : IntKind.i64.wrap ((k : Int) + 1) = (k : Int) + 1 := IntWalk.i64_in _ (by omega)
      have hw2 : IntKind.i64.wrap ((q : Int) + 1) = (q : Int) + 1 := IntWalk.i64_in _ (by omega)
      have HX := Lib.hid hx
      clear hc hx
      go_wp2_with fail
      refine (isref_any x _).mono ?_
      cases hp : refB x with
      | true =>
        have HP := Lib.hid hp
        clear hp
        rintro e w2 ⟨rfl, hb2⟩
        go_wp2_with fail
        go_roundw
        case rel => exact ⟨k + 1, q + 1, by omega, by omega, by go_num, by go_num, by rw [take_nx' HX.out, List.filter_append, List.length_append, ← HQ.out, List.filter_cons_of_pos HP.out]; rfl, keep_below hb2 hbW⟩
        case measure => simp [intOf]; omega
      | false =>
        have HP := Lib.hid hp
        clear hp
        rintro e w2 ⟨rfl, hb2⟩
        go_wp2_with fail
        go_roundw
        case rel => exact ⟨k + 1, q, by omega, by omega, by go_num, rfl, by rw [take_nx' HX.out, List.filter_append, List.length_append, ← HQ.out, List.filter_cons_of_neg (by rw [HP.out]; decide)]; rfl, keep_below hb2 hbW⟩
        case measure => simp [intOf]; omega
    · have hkn : k = n := by omega
      subst hkn
      have hd : decide ((k : Int) < (k : Int)) = false := by simp
      have hd2 : decide (k < k) = false := by simp
      have HV := Lib.hid (show q = (l.filter refB).length from by rw [HQ.out, List.take_of_length_le (by rw [HL.out]; omega)])
      go_wp2_with fail
      go_ret
      exact ⟨by rw [← HV.out]; rfl, hb⟩
set_option maxHeartbeats 1000000 in
theorem cntF_any (A : Option Addr) (n c : Nat) (l : List Int) (w : World) (h : Reads w w.heap.size 1 A n c (l.flatMap intCells)) (hn : n ≤ 1000000) :
    Calls Tryd.prog 37 #[.slice A n c, .func (.func 27) #[] #[]] w fun e w' => e = .returned (.int .i64 ((l.filter fewB).length : Nat)) ∧ Below w.heap.size w w' := by
  have hlen := h.length (f := intCells) (fun _ => rfl) (by omega)
  have HL := Lib.hid hlen
  clear hlen
  go_enter Tryd.func37, Tryd.ntmps37
  go_wp2_with fail
  go_loopw [5, 10] (fun s x wq => ∃ k q : Nat, k ≤ n ∧ q ≤ k ∧ x = .int .i64 k ∧ s = .int .i64 q ∧ q = ((l.take k).filter fewB).length ∧ Below w.heap.size w wq) (fun _ x _ => n - (intOf x).toNat)
  case atStart => exact ⟨0, 0, Nat.zero_le _, Nat.le_refl _, rfl, rfl, rfl, Below.refl _ _⟩
  case round =>
    obtain ⟨k, q, hk, hqk, rfl, rfl, hq, hb⟩ := hrel
    have HQ := Lib.hid hq
    clear hq
    by_cases hlt : k < n
    · obtain ⟨b, off, x, rfl, hbb, hx, hc⟩ := (h.belowU hb).elem (f := intCells) (fun _ => rfl) (by omega) hlt
      have d0 := hc 0 _ rfl
      rw [Nat.mul_one, Nat.add_zero] at d0
      have hbW := hb
      have hk0 : (0 : Int) ≤ (k : Int) := by omega
      have hk1 : (k : Int) < (n : Int) := by omega
      have hd : decide ((k : Int) < (n : Int)) = true := decide_eq_true hk1
      have hd2 : decide (k < n) = true := decide_eq_true hlt
      have hw : IntKind.i64.wrap ((k : Int) + 1) = (k : Int) + 1 := IntWalk.i64_in _ (by omega)
      have hw2 : IntKind.i64.wrap ((q : Int) + 1) = (q : Int) + 1 := IntWalk.i64_in _ (by omega)
      have HX := Lib.hid hx
      clear hc hx
      go_wp2_with fail
      refine (few_any x _).mono ?_
      cases hp : fewB x with
      | true =>
        have HP := Lib.hid hp
        clear hp
        rintro e w2 ⟨rfl, hb2⟩
        go_wp2_with fail
        go_roundw
        case rel => exact ⟨k + 1, q + 1, by omega, by omega, by go_num, by go_num, by rw [take_nx' HX.out, List.filter_append, List.length_append, ← HQ.out, List.filter_cons_of_pos HP.out]; rfl, keep_below hb2 hbW⟩
        case measure => simp [intOf]; omega
      | false =>
        have HP := Lib.hid hp
        clear hp
        rintro e w2 ⟨rfl, hb2⟩
        go_wp2_with fail
        go_roundw
        case rel => exact ⟨k + 1, q, by omega, by omega, by go_num, rfl, by rw [take_nx' HX.out, List.filter_append, List.length_append, ← HQ.out, List.filter_cons_of_neg (by rw [HP.out]; decide)]; rfl, keep_below hb2 hbW⟩
        case measure => simp [intOf]; omega
    · have hkn : k = n := by omega
      subst hkn
      have hd : decide ((k : Int) < (k : Int)) = false := by simp
      have hd2 : decide (k < k) = false := by simp
      have HV := Lib.hid (show q = (l.filter fewB).length from by rw [HQ.out, List.take_of_length_le (by rw [HL.out]; omega)])
      go_wp2_with fail
      go_ret
      exact ⟨by rw [← HV.out]; rfl, hb⟩
set_option maxHeartbeats 1000000 in
theorem cntB_any (A : Option Addr) (n c : Nat) (l : List Int) (w : World) (h : Reads w w.heap.size 1 A n c (l.flatMap intCells)) (hn : n ≤ 1000000) :
    Calls Tryd.prog 37 #[.slice A n c, .func (.func 72) #[] #[]] w fun e w' => e = .returned (.int .i64 ((l.filter byteB).length : Nat)) ∧ Below w.heap.size w w' := by
  have hlen := h.length (f := intCells) (fun _ => rfl) (by omega)
  have HL := Lib.hid hlen
  clear hlen
  go_enter Tryd.func37, Tryd.ntmps37
  go_wp2_with fail
  go_loopw [5, 10] (fun s x wq => ∃ k q : Nat, k ≤ n ∧ q ≤ k ∧ x = .int .i64 k ∧ s = .int .i64 q ∧ q = ((l.take k).filter byteB).length ∧ Below w.heap.size w wq) (fun _ x _ => n - (intOf x).toNat)
  case atStart => exact ⟨0, 0, Nat.zero_le _, Nat.le_refl _, rfl, rfl, rfl, Below.refl _ _⟩
  case round =>
    obtain ⟨k, q, hk, hqk, rfl, rfl, hq, hb⟩ := hrel
    have HQ := Lib.hid hq
    clear hq
    by_cases hlt : k < n
    · obtain ⟨b, off, x, rfl, hbb, hx, hc⟩ := (h.belowU hb).elem (f := intCells) (fun _ => rfl) (by omega) hlt
      have d0 := hc 0 _ rfl
      rw [Nat.mul_one, Nat.add_zero] at d0
      have hbW := hb
      have hk0 : (0 : Int) ≤ (k : Int) := by omega
      have hk1 : (k : Int) < (n : Int) := by omega
      have hd : decide ((k : Int) < (n : Int)) = true := decide_eq_true hk1
      have hd2 : decide (k < n) = true := decide_eq_true hlt
      have hw : IntKind.i64.wrap ((k : Int) + 1) = (k : Int) + 1 := IntWalk.i64_in _ (by omega)
      have hw2 : IntKind.i64.wrap ((q : Int) + 1) = (q : Int) + 1 := IntWalk.i64_in _ (by omega)
      have HX := Lib.hid hx
      clear hc hx
      go_wp2_with fail
      refine (byte_any x _).mono ?_
      cases hp : byteB x with
      | true =>
        have HP := Lib.hid hp
        clear hp
        rintro e w2 ⟨rfl, hb2⟩
        go_wp2_with fail
        go_roundw
        case rel => exact ⟨k + 1, q + 1, by omega, by omega, by go_num, by go_num, by rw [take_nx' HX.out, List.filter_append, List.length_append, ← HQ.out, List.filter_cons_of_pos HP.out]; rfl, keep_below hb2 hbW⟩
        case measure => simp [intOf]; omega
      | false =>
        have HP := Lib.hid hp
        clear hp
        rintro e w2 ⟨rfl, hb2⟩
        go_wp2_with fail
        go_roundw
        case rel => exact ⟨k + 1, q, by omega, by omega, by go_num, rfl, by rw [take_nx' HX.out, List.filter_append, List.length_append, ← HQ.out, List.filter_cons_of_neg (by rw [HP.out]; decide)]; rfl, keep_below hb2 hbW⟩
        case measure => simp [intOf]; omega
    · have hkn : k = n := by omega
      subst hkn
      have hd : decide ((k : Int) < (k : Int)) = false := by simp
      have hd2 : decide (k < k) = false := by simp
      have HV := Lib.hid (show q = (l.filter byteB).length from by rw [HQ.out, List.take_of_length_le (by rw [HL.out]; omega)])
      go_wp2_with fail
      go_ret
      exact ⟨by rw [← HV.out]; rfl, hb⟩
theorem all_count {α : Type} (p : α → Bool) (l : List α) : l.all p = (((l.filter p).length : Int) == (l.length : Int)) := by
  rw [Bool.eq_iff_iff, List.all_eq_true, beq_iff_eq]
  constructor
  · intro h
    rw [List.filter_eq_self.2 h]
  · intro h
    have h2 : (l.filter p).length = l.length := by omega
    exact List.filter_eq_self.1 (List.filter_sublist.eq_of_length h2)
theorem allT_any (A : Option Addr) (n c : Nat) (l : List Int) (w : World) (h : Reads w w.heap.size 1 A n c (l.flatMap intCells)) (hn : n ≤ 1000000) :
    Calls Tryd.prog 26 #[.slice A n c, .func (.func 47) #[] #[]] w fun e w' => e = .returned (.bool (l.all typedB)) ∧ Below w.heap.size w w' := by
  have hlen := h.length (f := intCells) (fun _ => rfl) (by omega)
  have HV := Lib.hid (show l.all typedB = (((l.filter typedB).length : Int) == (n : Int)) from by rw [← hlen]; exact all_count typedB l)
  clear hlen
  go_enter Tryd.func26, Tryd.ntmps26
  go_wp2_with fail
  refine (cntT_any A n c l _ h hn).mono ?_
  rintro e w2 ⟨rfl, hb2⟩
  go_wp2_with fail
  go_ret
  exact ⟨by rw [HV.out]; rfl, hb2⟩
theorem allF_any (A : Option Addr) (n c : Nat) (l : List Int) (w : World) (h : Reads w w.heap.size 1 A n c (l.flatMap intCells)) (hn : n ≤ 1000000) :
    Calls Tryd.prog 26 #[.slice A n c, .func (.func 27) #[] #[]] w fun e w' => e = .returned (.bool (l.all fewB)) ∧ Below w.heap.size w w' := by
  have hlen := h.length (f := intCells) (fun _ => rfl) (by omega)
  have HV := Lib.hid (show l.all fewB = (((l.filter fewB).length : Int) == (n : Int)) from by rw [← hlen]; exact all_count fewB l)
  clear hlen
  go_enter Tryd.func26, Tryd.ntmps26
  go_wp2_with fail
  refine (cntF_any A n c l _ h hn).mono ?_
  rintro e w2 ⟨rfl, hb2⟩
  go_wp2_with fail
  go_ret
  exact ⟨by rw [HV.out]; rfl, hb2⟩
theorem allB_any (A : Option Addr) (n c : Nat) (l : List Int) (w : World) (h : Reads w w.heap.size 1 A n c (l.flatMap intCells)) (hn : n ≤ 1000000) :
    Calls Tryd.prog 26 #[.slice A n c, .func (.func 72) #[] #[]] w fun e w' => e = .returned (.bool (l.all byteB)) ∧ Below w.heap.size w w' := by
  have hlen := h.length (f := intCells) (fun _ => rfl) (by omega)
  have HV := Lib.hid (show l.all byteB = (((l.filter byteB).length : Int) == (n : Int)) from by rw [← hlen]; exact all_count byteB l)
  clear hlen
  go_enter Tryd.func26, Tryd.ntmps26
  go_wp2_with fail
  refine (cntB_any A n c l _ h hn).mono ?_
  rintro e w2 ⟨rfl, hb2⟩
  go_wp2_with fail
  go_ret
  exact ⟨by rw [HV.out]; rfl, hb2⟩
end Go.Proofs.YtnnchinpmnpfiaaDoor

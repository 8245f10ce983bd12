/- Lists of numbers: are two the same? The root map and the ranks of the reference. -/
import Derived.Test.YtnnchinpmnpfiaaDoorM1
namespace Go.Proofs.YtnnchinpmnpfiaaDoor
open Go.ChangeShapes Go.WideShapes Go.RowKit Words

/-- numbers of the call's own come back -/
def RetInts (w : World) (l : List Int) (e : Ending) (w' : World) : Prop :=
  ∃ A c, e = .returned (.slice A l.length c) ∧ Reads w' w'.heap.size 1 A l.length c (l.flatMap intCells) ∧ Below w.heap.size w w'
/-- the places of the references from place i on -/
def refsFrom : Nat → List Int → List Int
  | _, [] => []
  | i, k :: r => if k = 2 then (i : Int) :: refsFrom (i + 1) r else refsFrom (i + 1) r
/-- how many references are there? -/
def rankL (l : List Int) : Nat := (l.filter (fun k => decide (k = 2))).length
theorem refsFrom_len : ∀ (l : List Int) (i : Nat), (refsFrom i l).length ≤ l.length
  | [], _ => Nat.le_refl _
  | k :: r, i => by
    unfold refsFrom
    have := refsFrom_len r (i + 1)
    split
    · simp; exact this
    · simp; omega
theorem refsFrom_app : ∀ (l : List Int) (i : Nat) (k : Int), refsFrom i (l ++ [k]) = refsFrom i l ++ (if k = 2 then [((i + l.length : Nat) : Int)] else [])
  | [], i, k => by simp [refsFrom]
  | x :: l, i, k => by
    have := refsFrom_app l (i + 1) k
    simp only [List.cons_append, refsFrom, this, List.length_cons, show i + (l.length + 1) = i + 1 + l.length by omega]
    split <;> simp
theorem take_nx' {α : Type} {l : List α} {k : Nat} {a : α} (h : l[k]? = some a) : l.take (k + 1) = l.take k ++ [a] := by
  rw [List.take_add_one, h]; rfl
theorem refs_snoc {l : List Int} {i : Nat} {k : Int} (h : l[i]? = some k) : refsFrom 0 (l.take (i + 1)) = refsFrom 0 (l.take i) ++ (if k = 2 then [(i : Int)] else []) := by
  rw [take_nx' h, refsFrom_app, List.length_take, Nat.zero_add]
  have := (List.getElem?_eq_some_iff.1 h).1
  rw [show min i l.length = i by omega]
theorem rank_snoc {l : List Int} {i : Nat} {k : Int} (h : l[i]? = some k) : rankL (l.take (i + 1)) = rankL (l.take i) + (if k = 2 then 1 else 0) := by
  unfold rankL
  rw [take_nx' h, List.filter_append, List.length_append]
  congr 1
  by_cases e : k = 2
  · simp [e]
  · simp [e]
theorem rank_le (l : List Int) : rankL l ≤ l.length := List.length_filter_le _ _

set_option maxHeartbeats 1000000 in
theorem rrefs_any (p : Int) (A : Option Addr) (n c : Nat) (r : Int) (B : Option Addr) (m d : Nat) (l : List Int) (w : World) (h : Reads w w.heap.size 1 A n c (l.flatMap intCells)) (hn : n ≤ 1000000) :
    Calls Tryd.prog 17 #[fnV p A n c r B m d] w (RetInts w (refsFrom 0 l)) := by
  have hlen := h.length (f := intCells) (fun _ => rfl) (by omega)
  have hB0 : Below w.heap.size w (w.alloc (.cells #[.int .i64 p, .slice A n c, .int .i64 r, .slice B m d] 44)) := keep_alloc (Below.refl _ _) _
  have X0 := Blk.new w #[.int .i64 p, .slice A n c, .int .i64 r, .slice B m d] 44
  have h1 := h.belowU hB0
  have HL := Lib.hid hlen
  clear hlen h
  go_enter Tryd.func17, Tryd.ntmps17
  go_wp2_with fail
  obtain ⟨w1, hw1⟩ : ∃ w1, w.alloc (.cells #[.int .i64 p, .slice A n c, .int .i64 r, .slice B m d] 44) = w1 := ⟨_, rfl⟩
  obtain ⟨g, hg⟩ : ∃ g, w.heap.size = g := ⟨_, rfl⟩
  rw [hw1] at hB0 X0 h1 ⊢
  rw [hg] at X0 hB0 ⊢
  have HG := Lib.hid hg
  clear hw1 hg
  go_loopw [3, 4] (fun s x wq => ∃ (k q : Nat) (A' : Option Addr) (c' : Nat), k ≤ n ∧ q ≤ k ∧ x = .int .i64 k ∧ s = .slice A' q c' ∧ wq.ownsRow w1.heap.size 3 1 (.slice A' q c') q ((refsFrom 0 (l.take k)).flatMap intCells) ∧ Below w1.heap.size w1 wq) (fun _ x _ => n - (intOf x).toNat)
  case atStart => exact ⟨0, 0, none, 0, Nat.zero_le _, Nat.le_refl _, rfl, rfl, World.ownsRow_nil _ _ _ _, Below.refl _ _⟩
  case round =>
    obtain ⟨k, q, A', c', hk, hqk, rfl, rfl, hown, hb⟩ := hrel
    have q1 : wr.cell? ⟨g, 1, none⟩ = some (.slice A n c) := (X0.below hb).cell 1 _ rfl
    by_cases hlt : k < n
    · obtain ⟨b, off, x, rfl, hbb, hx, hc⟩ := (h1.belowU hb).elem (f := intCells) (fun _ => rfl) (by omega) hlt
      have d0 := hc 0 _ rfl
      rw [Nat.mul_one, Nat.add_zero] at d0
      have hk0 : (0 : Int) ≤ (k : Int) := by omega
      have hk1 : (k : Int) < (n : Int) := by omega
      have hd : decide ((k : Int) < (n : Int)) = true := decide_eq_true hk1
      have hd2 : decide (k < n) = true := decide_eq_true hlt
      have hw : IntKind.i64.wrap ((k : Int) + 1) = (k : Int) + 1 := IntWalk.i64_in _ (by omega)
      have HS := Lib.hid (refs_snoc hx)
      have q1' : q + 1 ≤ maxLen := by unfold maxLen; omega
      have q2' : (q + 1) * 8 ≤ 140737488355328 := by omega
      clear hx hc
      by_cases e2 : x = 2
      · subst e2
        have hfr := Reads.freshAs wr #[.int .i64 k] 3 1 1 (([(k : Int)] : List Int).flatMap intCells) rfl rfl (by decide)
        go_wp2_with (at_builtin; go_loud (refine wpList_app rfl _ _ _ rfl tyInts rfl (hown.alloc _) rfl hfr (by simp [Value.oneCell', intCells]) q1' q2' (by simp; have := hb.size; omega) ?_; intro v' w6 hown' hb'; obtain ⟨A2, c2, rfl, -⟩ := Reads.own hown'))
        go_roundw
        case rel => exact ⟨k + 1, q + 1, A2, c2, by omega, by omega, by go_num, rfl, by rw [HS.out, if_pos rfl, List.flatMap_append]; exact hown', (hb.alloc hb.size _).trans hb'⟩
        case measure => simp [intOf]; omega
      · have t2 : (x == 2) = false := beq_false_of_ne e2
        go_wp2_with fail
        go_roundw
        case rel => exact ⟨k + 1, q, A', c', by omega, by omega, by go_num, rfl, by rw [HS.out, if_neg e2, List.append_nil]; exact hown, hb⟩
        case measure => simp [intOf]; omega
    · have hkn : k = n := by omega
      subst hkn
      have hd : decide ((k : Int) < (k : Int)) = false := by simp
      have hd2 : decide (k < k) = false := by simp
      rw [List.take_of_length_le (by rw [HL.out]; omega)] at hown
      obtain ⟨A3, c3, e3, hr⟩ := Reads.own hown
      injection e3 with x1 x2 x3
      subst x1 x3
      have hqq := hr.length (f := intCells) (fun _ => rfl) (by omega)
      have HR := Lib.hid hr
      have HQ := Lib.hid hqq
      clear hown hr hqq
      go_wp2_with fail
      go_ret
      refine ⟨A', c', ?_, ?_, ?_⟩
      · rw [HQ.out]; rfl
      · rw [HQ.out]; exact HR.out
      · rw [HG.out]; exact hB0.trans (hb.mono (by have := X0.lt; omega))
set_option maxHeartbeats 1000000 in
theorem refs_any (p : Int) (A : Option Addr) (n c : Nat) (r : Int) (B : Option Addr) (m d : Nat) (l : List Int) (w : World) (h : Reads w w.heap.size 1 A n c (l.flatMap intCells)) (hn : n ≤ 1000000) :
    Calls Tryd.prog 15 #[fnV p A n c r B m d] w (RetInts w (refsFrom 0 l)) := by
  have hlen := h.length (f := intCells) (fun _ => rfl) (by omega)
  have hB0 : Below w.heap.size w (w.alloc (.cells #[.int .i64 p, .slice A n c, .int .i64 r, .slice B m d] 49)) := keep_alloc (Below.refl _ _) _
  have X0 := Blk.new w #[.int .i64 p, .slice A n c, .int .i64 r, .slice B m d] 49
  have h1 := h.belowU hB0
  have HL := Lib.hid hlen
  clear hlen h
  go_enter Tryd.func15, Tryd.ntmps15
  go_wp2_with fail
  obtain ⟨w1, hw1⟩ : ∃ w1, w.alloc (.cells #[.int .i64 p, .slice A n c, .int .i64 r, .slice B m d] 49) = w1 := ⟨_, rfl⟩
  obtain ⟨g, hg⟩ : ∃ g, w.heap.size = g := ⟨_, rfl⟩
  rw [hw1] at hB0 X0 h1 ⊢
  rw [hg] at X0 hB0 ⊢
  have HG := Lib.hid hg
  clear hw1 hg
  go_loopw [3, 9] (fun s x wq => ∃ (k q : Nat) (A' : Option Addr) (c' : Nat), k ≤ n ∧ q ≤ k ∧ x = .int .i64 k ∧ s = .slice A' q c' ∧ wq.ownsRow w1.heap.size 3 1 (.slice A' q c') q ((refsFrom 0 (l.take k)).flatMap intCells) ∧ Below w1.heap.size w1 wq) (fun _ x _ => n - (intOf x).toNat)
  case atStart => exact ⟨0, 0, none, 0, Nat.zero_le _, Nat.le_refl _, rfl, rfl, World.ownsRow_nil _ _ _ _, Below.refl _ _⟩
  case round =>
    obtain ⟨k, q, A', c', hk, hqk, rfl, rfl, hown, hb⟩ := hrel
    have q1 : wr.cell? ⟨g, 1, none⟩ = some (.slice A n c) := (X0.below hb).cell 1 _ rfl
    by_cases hlt : k < n
    · obtain ⟨b, off, x, rfl, hbb, hx, hc⟩ := (h1.belowU hb).elem (f := intCells) (fun _ => rfl) (by omega) hlt
      have d0 := hc 0 _ rfl
      rw [Nat.mul_one, Nat.add_zero] at d0
      have hk0 : (0 : Int) ≤ (k : Int) := by omega
      have hk1 : (k : Int) < (n : Int) := by omega
      have hd : decide ((k : Int) < (n : Int)) = true := decide_eq_true hk1
      have hd2 : decide (k < n) = true := decide_eq_true hlt
      have hw : IntKind.i64.wrap ((k : Int) + 1) = (k : Int) + 1 := IntWalk.i64_in _ (by omega)
      have HS := Lib.hid (refs_snoc hx)
      have q1' : q + 1 ≤ maxLen := by unfold maxLen; omega
      have q2' : (q + 1) * 8 ≤ 140737488355328 := by omega
      clear hx hc
      by_cases e2 : x = 2
      · subst e2
        have hfr := Reads.freshAs wr #[.int .i64 k] 3 1 1 (([(k : Int)] : List Int).flatMap intCells) rfl rfl (by decide)
        go_wp2_with (at_builtin; go_loud (refine wpList_app rfl _ _ _ rfl tyInts rfl (hown.alloc _) rfl hfr (by simp [Value.oneCell', intCells]) q1' q2' (by simp; have := hb.size; omega) ?_; intro v' w6 hown' hb'; obtain ⟨A2, c2, rfl, -⟩ := Reads.own hown'))
        go_roundw
        case rel => exact ⟨k + 1, q + 1, A2, c2, by omega, by omega, by go_num, rfl, by rw [HS.out, if_pos rfl, List.flatMap_append]; exact hown', (hb.alloc hb.size _).trans hb'⟩
        case measure => simp [intOf]; omega
      · have t2 : (x == 2) = false := beq_false_of_ne e2
        go_wp2_with fail
        go_roundw
        case rel => exact ⟨k + 1, q, A', c', by omega, by omega, by go_num, rfl, by rw [HS.out, if_neg e2, List.append_nil]; exact hown, hb⟩
        case measure => simp [intOf]; omega
    · have hkn : k = n := by omega
      subst hkn
      have hd : decide ((k : Int) < (k : Int)) = false := by simp
      have hd2 : decide (k < k) = false := by simp
      rw [List.take_of_length_le (by rw [HL.out]; omega)] at hown
      obtain ⟨A3, c3, e3, hr⟩ := Reads.own hown
      injection e3 with x1 x2 x3
      subst x1 x3
      have hqq := hr.length (f := intCells) (fun _ => rfl) (by omega)
      have HR := Lib.hid hr
      have HQ := Lib.hid hqq
      clear hown hr hqq
      go_wp2_with fail
      go_ret
      refine ⟨A', c', ?_, ?_, ?_⟩
      · rw [HQ.out]; rfl
      · rw [HQ.out]; exact HR.out
      · rw [HG.out]; exact hB0.trans (hb.mono (by have := X0.lt; omega))
set_option maxHeartbeats 1000000 in
theorem rrank_any (p : Int) (A : Option Addr) (n c : Nat) (r : Int) (B : Option Addr) (m d : Nat) (l : List Int) (i : Int) (w : World) (h : Reads w w.heap.size 1 A n c (l.flatMap intCells)) (hn : n ≤ 1000000) :
    Calls Tryd.prog 19 #[fnV p A n c r B m d, .int .i64 i] w fun e w' => e = .returned (.int .i64 (rankL (l.take i.toNat))) ∧ Below w.heap.size w w' := by
  have hlen := h.length (f := intCells) (fun _ => rfl) (by omega)
  have hB0 : Below w.heap.size w (w.alloc (.cells #[.int .i64 p, .slice A n c, .int .i64 r, .slice B m d] 44)) := keep_alloc (Below.refl _ _) _
  have X0 := Blk.new w #[.int .i64 p, .slice A n c, .int .i64 r, .slice B m d] 44
  have h1 := h.belowU hB0
  have HL := Lib.hid hlen
  clear hlen h
  go_enter Tryd.func19, Tryd.ntmps19
  go_wp2_with fail
  have x1 := X0.cell 1 _ rfl
  obtain ⟨w1, hw1⟩ : ∃ w1, w.alloc (.cells #[.int .i64 p, .slice A n c, .int .i64 r, .slice B m d] 44) = w1 := ⟨_, rfl⟩
  obtain ⟨g, hg⟩ : ∃ g, w.heap.size = g := ⟨_, rfl⟩
  rw [hw1] at hB0 X0 h1 x1 ⊢
  rw [hg] at X0 hB0 x1 ⊢
  have HG := Lib.hid hg
  clear hw1 hg
  go_loop [5, 6] (fun s x => ∃ k : Nat, k ≤ n ∧ (k = 0 ∨ (k : Int) ≤ i) ∧ x = .int .i64 k ∧ s = .int .i64 (rankL (l.take k))) (fun _ x => n - (intOf x).toNat)
  case atStart => exact ⟨0, Nat.zero_le _, Or.inl rfl, rfl, rfl⟩
  case round =>
    obtain ⟨k, hk, hki, rfl, rfl⟩ := hrel
    by_cases hlt : (k : Int) < i ∧ k < n
    · obtain ⟨b, off, x, rfl, hbb, hx, hc⟩ := h1.elem (f := intCells) (fun _ => rfl) (by omega) hlt.2
      have d0 := hc 0 _ rfl
      rw [Nat.mul_one, Nat.add_zero] at d0
      have hk0 : (0 : Int) ≤ (k : Int) := by omega
      have hk1 : (k : Int) < (n : Int) := by omega
      have hd : decide ((k : Int) < (n : Int)) = true := decide_eq_true hk1
      have hd2 : decide (k < n) = true := decide_eq_true hlt.2
      have hdi : decide ((k : Int) < i) = true := decide_eq_true hlt.1
      have hw : IntKind.i64.wrap ((k : Int) + 1) = (k : Int) + 1 := IntWalk.i64_in _ (by omega)
      have hrk := rank_le (l.take k)
      rw [List.length_take] at hrk
      have hw2 : IntKind.i64.wrap ((rankL (l.take k) : Int) + 1) = (rankL (l.take k) : Int) + 1 := IntWalk.i64_in _ (by omega)
      have HS := Lib.hid (rank_snoc hx)
      have HLT := Lib.hid hlt
      clear hx hc hrk hlt
      by_cases e2 : x = 2
      · subst e2
        go_wp2_with fail
        go_round
        case rel => exact ⟨k + 1, by omega, Or.inr (by have := HLT.out.1; omega), by go_num, by rw [HS.out, if_pos rfl]; go_num⟩
        case measure => simp [intOf]; omega
      · have t2 : (x == 2) = false := beq_false_of_ne e2
        go_wp2_with fail
        go_round
        case rel => exact ⟨k + 1, by omega, Or.inr (by have := HLT.out.1; omega), by go_num, by rw [HS.out, if_neg e2]; rfl⟩
        case measure => simp [intOf]; omega
    · have hV : rankL (l.take i.toNat) = rankL (l.take k) := by
        have hL := HL.out
        by_cases hin : (k : Int) < i
        · rw [List.take_of_length_le (by omega : l.length ≤ i.toNat), List.take_of_length_le (by omega : l.length ≤ k)]
        · rcases hki with rfl | hki
          · rw [show i.toNat = 0 by omega]
          · rw [show i.toNat = k by omega]
      have HV := Lib.hid hV
      clear hV
      by_cases hin : (k : Int) < i
      · have hdi : decide ((k : Int) < i) = true := decide_eq_true hin
        have hd : decide ((k : Int) < (n : Int)) = false := decide_eq_false (by omega)
        have hd2 : decide (k < n) = false := decide_eq_false (by omega)
        clear hlt
        go_wp2_with fail
        go_ret
        exact ⟨by rw [HV.out]; rfl, by rw [HG.out]; exact hB0⟩
      · have hdi : decide ((k : Int) < i) = false := decide_eq_false hin
        clear hlt
        go_wp2_with fail
        go_ret
        exact ⟨by rw [HV.out]; rfl, by rw [HG.out]; exact hB0⟩
set_option maxHeartbeats 1000000 in
theorem same_any (A : Option Addr) (n c : Nat) (l : List Int) (B : Option Addr) (m d : Nat) (k : List Int) (w : World) (h : Reads w w.heap.size 1 A n c (l.flatMap intCells)) (h' : Reads w w.heap.size 1 B m d (k.flatMap intCells)) (hn : n ≤ 1000000) :
    Calls Tryd.prog 16 #[.slice A n c, .slice B m d] w fun e w' => e = .returned (.bool (decide (l = k))) ∧ Below w.heap.size w w' := by
  have hlen := h.length (f := intCells) (fun _ => rfl) (by omega)
  have hlen' := h'.length (f := intCells) (fun _ => rfl) (by omega)
  by_cases hnm : n = m
  · subst hnm
    have HL := Lib.hid hlen
    have HL' := Lib.hid hlen'
    clear hlen hlen'
    go_enter Tryd.func16, Tryd.ntmps16
    go_wp2_with fail
    go_loopw [5] (fun x wq => ∃ i : Nat, i ≤ n ∧ x = .int .i64 i ∧ l.take i = k.take i ∧ Below w.heap.size w wq) (fun x _ => n - (intOf x).toNat)
    case atStart => exact ⟨0, Nat.zero_le _, rfl, rfl, Below.refl _ _⟩
    case round =>
      obtain ⟨i, hi, rfl, ht, hb⟩ := hrel
      by_cases hlt : i < n
      · obtain ⟨b, off, x, rfl, hbb, hx, hc⟩ := (h.belowU hb).elem (f := intCells) (fun _ => rfl) (by omega) hlt
        obtain ⟨b', off', y, rfl, hbb', hy, hc'⟩ := (h'.belowU hb).elem (f := intCells) (fun _ => rfl) (by omega) hlt
        have d0 := hc 0 _ rfl
        have e0 := hc' 0 _ rfl
        rw [Nat.mul_one, Nat.add_zero] at d0 e0
        have hk0 : (0 : Int) ≤ (i : Int) := by omega
        have hk1 : (i : Int) < (n : Int) := by omega
        have hd : decide ((i : Int) < (n : Int)) = true := decide_eq_true hk1
        have hd2 : decide (i < n) = true := decide_eq_true hlt
        have hw : IntKind.i64.wrap ((i : Int) + 1) = (i : Int) + 1 := IntWalk.i64_in _ (by omega)
        have HX := Lib.hid hx
        have HY := Lib.hid hy
        have HT := Lib.hid ht
        clear hc hc' hx hy ht h h'
        go_upto_region 6 with fail
        have D0 := Lag.cell d0
        have E0 := Lag.cell e0
        clear d0 e0
        by_cases exy : x = y
        · subst exy
          have t2 : (x != x) = false := by simp
          refine wp_region_lag (by kernel_rfl) (by kernel_rfl) ?_
          repeat (go_big_quiet_step (fail))
          refine wpQuiet_nil ?_
          rintro w2 ⟨uu, hu⟩
          have hb2 := keep_below (hu ▸ uu.h : Below wr.heap.size wr w2) hb
          clear hu uu D0 E0
          go_wp2_with fail
          go_roundw
          case rel => exact ⟨i + 1, by omega, by go_num, by rw [take_nx' HX.out, take_nx' HY.out, HT.out], hb2⟩
          case measure => simp [intOf]; omega
        · have t2 : (x != y) = true := by simp [exy]
          have HV := Lib.hid (show decide (l = k) = false from decide_eq_false (fun e => exy (by have := HX.out; rw [e, HY.out] at this; exact (Option.some.inj this).symm)))
          refine wp_region_lag (by kernel_rfl) (by kernel_rfl) ?_
          repeat (go_big_quiet_step (fail))
          refine wpQuiet_nil ?_
          rintro w2 ⟨uu, hu⟩
          have hb2 := keep_below (hu ▸ uu.h : Below wr.heap.size wr w2) hb
          clear hu uu D0 E0
          go_wp2_with fail
          go_ret
          exact ⟨by rw [HV.out]; rfl, hb2⟩
      · have hin : i = n := by omega
        subst hin
        have hd : decide ((i : Int) < (i : Int)) = false := by simp
        have hd2 : decide (i < i) = false := by simp
        rw [List.take_of_length_le (by rw [HL.out]; omega), List.take_of_length_le (by rw [HL'.out]; omega)] at ht
        have HV := Lib.hid (show decide (l = k) = true from decide_eq_true ht)
        clear ht h h'
        go_wp2_with fail
        go_ret
        exact ⟨by rw [HV.out]; rfl, hb⟩
  · have HV := Lib.hid (show decide (l = k) = false from decide_eq_false (fun e => hnm (by rw [← hlen, ← hlen', e])))
    have t2 : ((n : Int) != (m : Int)) = true := by simp; omega
    clear h h' hlen hlen'
    go_enter Tryd.func16, Tryd.ntmps16
    go_wp2_with fail
    go_ret
    exact ⟨by rw [HV.out]; rfl, Below.refl _ _⟩
end Go.Proofs.YtnnchinpmnpfiaaDoor

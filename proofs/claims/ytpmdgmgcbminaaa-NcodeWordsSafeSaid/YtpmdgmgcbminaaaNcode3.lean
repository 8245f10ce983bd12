/- The contracts of the reference of Encode, and of Args and its reference; the sanity check. -/
import Derived.Test.YtpmdgmgcbminaaaNcode2
namespace Go.Proofs.Ytpmdgmgcbminaaa
open Go.RowKit Words

set_option maxHeartbeats 1000000 in
theorem rencode_any (g : Int) (A : Option Addr) (n c : Nat) (l : List NI) (w : World) (h : Reads w w.heap.size 5 A n c (l.flatMap insCells)) :
    Calls Try.prog 15 #[codeV g A n c] w (RetNW w (encC g l)) := by
  have hlen := h.length insCells_len (by omega)
  have hW := code_alloc w 27 g A n c
  have B0 := Blk.new w #[.int .i64 g, .slice A n c] 27
  have ha := h.belowU hW
  cases hf : formedC g l
  · have hr : encC g l = ([], 1) := by unfold encC; rw [hf]; rfl
    rw [hr]
    have HF := Lib.hid hf
    clear hf hr hlen
    go_enter Try.func15, Try.ntmps15
    go_wp2_with (go_at_call 30; refine (rformed_any _ _ _ _ _ _ ha).mono ?_; rintro e w1 ⟨rfl, hb⟩; rw [HF.out])
    go_ret2
    exact ⟨none, 0, rfl, Reads.nil, keep_below hb hW⟩
  · have hr : encC g l = (encL g l, 0) := by unfold encC; rw [hf]; rfl
    rw [hr]
    obtain ⟨⟨g0, g1⟩, hn, hall⟩ := formedC_parts hf
    rw [hlen] at hn
    have HF := Lib.hid hf
    have HL := Lib.hid hlen
    have HA := Lib.hid hall
    have wg : IntKind.u64.wrap g = g := IntWalk.u64_in _ (by omega)
    have HG := Lib.hid (U_ofInt g (by omega) (by omega))
    clear hf hr hlen hall
    go_enter Try.func15, Try.ntmps15
    go_wp2_with (go_at_call 30; refine (rformed_any _ _ _ _ _ _ ha).mono ?_; rintro e w1 ⟨rfl, hb⟩; rw [HF.out]; have B1 := B0.below hb; have q0 : w1.cell? ⟨w.heap.size, 0, none⟩ = some (.int .i64 g) := B1.cell 0 _ rfl; have q1 : w1.cell? ⟨w.heap.size, 1, none⟩ = some (.slice A n c) := B1.cell 1 _ rfl; have hs1 := hb.size; have hB1 := keep_below hb hW)
    simp only [World.size_alloc] at hs1
    have hown0 := World.ownsRow_lit (e := 56) (size := 1) (base := w1.heap.size) w1 #[.int .u64 g] 1 (Nat.le_refl _) (by decide) rfl
    have hown1 : (w1.alloc (.cells #[.int .u64 g] 56)).ownsRow w1.heap.size 56 1 (.slice (some ⟨w1.heap.size, 0, none⟩) 1 1) (1 + 2 * 0) ((encL g (l.take 0)).flatMap wordCells) := by
      have : (encL g (l.take 0)).flatMap wordCells = [.int .u64 g] := by simp [encL, wordCells, HG.out]
      rw [this]; exact hown0
    have hB2 := keep_alloc hB1 (.cells #[.int .u64 g] 56)
    have B2 := B1.alloc (.cells #[.int .u64 g] 56)
    obtain ⟨w2, hw2⟩ : ∃ w2, w1.alloc (.cells #[.int .u64 g] 56) = w2 := ⟨_, rfl⟩
    have hs2 : w1.heap.size < w2.heap.size := by rw [← hw2]; simp
    rw [hw2] at hown1 hB2 B2 ⊢
    have h2 := h.below hB2
    clear hw2 hown0
    go_loopw [4, 5] (fun v x wq => ∃ k : Nat, k ≤ n ∧ x = .int .i64 k ∧ wq.ownsRow w1.heap.size 56 1 v (1 + 2 * k) ((encL g (l.take k)).flatMap wordCells) ∧ Below w1.heap.size w2 wq) (fun _ x _ => n - (intOf x).toNat)
    case atStart => exact ⟨0, Nat.zero_le _, rfl, hown1, Below.refl _ _⟩
    case round =>
      obtain ⟨k, hk, rfl, hown, hbr⟩ := hrel
      have hsz := hbr.size
      have B3 := B2.belowB hbr (by omega)
      have q1 : wr.cell? ⟨w.heap.size, 1, none⟩ = some (.slice A n c) := B3.cell 1 _ rfl
      by_cases hlt : k < n
      · obtain ⟨b, off, x, rfl, hbb, hx, hc⟩ := (h2.below (hbr.mono (by omega))).elem insCells_len (by omega) hlt
        have d0 := hc 0 _ rfl
        have d1 := hc 1 _ rfl
        have d2 := hc 2 _ rfl
        have d3 := hc 3 _ rfl
        have d4 := hc 4 _ rfl
        rw [Nat.add_zero] at d0
        have hk0 : (0 : Int) ≤ (k : Int) := by omega
        have hk1 : (k : Int) < (n : Int) := by omega
        have hfx := HA.out x (List.mem_of_getElem? hx)
        obtain ⟨ho, ha, hb', hc'⟩ := (formedI_iff x).1 hfx
        have hiw : U (insW x) = x.op + 256 * x.a + 4096 * x.b + 1048576 * x.c := U_ofInt _ (by omega) (by omega)
        have HI := Lib.hid hiw
        have hsn := encL_snoc g (l.take k) x
        rw [← take_nx hx] at hsn
        have HS := Lib.hid hsn
        have q1' : 1 + 2 * k + 2 ≤ maxLen := by unfold maxLen; omega
        have q2' : (1 + 2 * k + 2) * 8 ≤ 140737488355328 := by omega
        have hownA := (hown.alloc (.cells #[.int .i64 x.op, .int .i64 x.a, .int .i64 x.b, .int .i64 x.c, .int .u64 (U x.k)] 58))
        have hcells : (#[.int .u64 (x.op + x.a * 256 + x.b * 4096 + x.c * 1048576), .int .u64 (U x.k)] : Array Value).toList = [insW x, x.k].flatMap wordCells := by
          simp [wordCells, HI.out]; omega
        have hfr := Reads.freshAt (wr.alloc (.cells #[.int .i64 x.op, .int .i64 x.a, .int .i64 x.b, .int .i64 x.c, .int .u64 (U x.k)] 58)) #[.int .u64 (x.op + x.a * 256 + x.b * 4096 + x.c * 1048576), .int .u64 (U x.k)] 56 1 2 ([insW x, x.k].flatMap wordCells) (wr.heap.size + 1) (by simp) hcells rfl (by decide)
        clear hc hx hfx hsn hiw hcells hown
        go_wp2_with (at_builtin; refine wpList_app rfl _ _ _ rfl tyNWords rfl (hownA.alloc _) rfl hfr (by simp [wordCells, Value.oneCell']) q1' q2' (by simp; omega) ?_; intro v' w6 hown' hb')
        go_roundw
        case rel =>
          refine ⟨k + 1, by omega, by go_num, ?_, ?_⟩
          · rw [HS.out, List.flatMap_append]; exact hown'
          · exact ((hbr.alloc (by omega) _).alloc (by simp; omega) _).trans hb'
        case measure => simp [intOf]; omega
      · have hkn : k = n := by omega
        subst hkn
        rw [List.take_of_length_le (by rw [HL.out]; omega)] at hown
        obtain ⟨A', c', rfl, hr'⟩ := Reads.own hown
        have hel := encL_len g l
        rw [HL.out] at hel
        have HE := Lib.hid hel
        clear hel
        go_wp2_with fail
        go_ret2
        exact ⟨A', c', by rw [HE.out]; rfl, by rw [HE.out]; exact hr', hB2.trans (hbr.mono (by omega))⟩

/-- the number of arguments of a boundary call -/
def argsN (op : Int) : Int := if op = 7 ∨ op = 9 then 3 else if op = 1 ∨ op = 6 ∨ op = 8 ∨ op = 10 then 2 else if op < 1 ∨ 20 < op then 0 else 1
theorem argsN_range (op : Int) : 0 ≤ argsN op ∧ argsN op ≤ 3 := by
  unfold argsN
  split
  · omega
  · split
    · omega
    · split <;> omega
theorem args_any (op : Int) (w : World) : Calls Try.prog 10 #[.int .i64 op] w fun e w' => e = .returned (.int .i64 (argsN op)) ∧ w = w' := by
  by_cases t0 : op = 7
  · subst t0
    go_enter Try.func10, Try.ntmps10
    go_wp2
    go_ret
    exact ⟨rfl, rfl⟩
  have e0 : (op == (7 : Int)) = false := by simp [t0]
  by_cases t1 : op = 9
  · subst t1
    go_enter Try.func10, Try.ntmps10
    go_wp2
    go_ret
    exact ⟨rfl, rfl⟩
  have e1 : (op == (9 : Int)) = false := by simp [t1]
  by_cases t2 : op = 1
  · subst t2
    go_enter Try.func10, Try.ntmps10
    go_wp2
    go_ret
    exact ⟨rfl, rfl⟩
  have e2 : (op == (1 : Int)) = false := by simp [t2]
  by_cases t3 : op = 6
  · subst t3
    go_enter Try.func10, Try.ntmps10
    go_wp2
    go_ret
    exact ⟨rfl, rfl⟩
  have e3 : (op == (6 : Int)) = false := by simp [t3]
  by_cases t4 : op = 8
  · subst t4
    go_enter Try.func10, Try.ntmps10
    go_wp2
    go_ret
    exact ⟨rfl, rfl⟩
  have e4 : (op == (8 : Int)) = false := by simp [t4]
  by_cases t5 : op = 10
  · subst t5
    go_enter Try.func10, Try.ntmps10
    go_wp2
    go_ret
    exact ⟨rfl, rfl⟩
  have e5 : (op == (10 : Int)) = false := by simp [t5]
  by_cases t6 : op < 1
  · have HV := Lib.hid (show argsN op = 0 by unfold argsN; rw [if_neg (by omega), if_neg (by omega), if_pos (by omega)])
    go_enter Try.func10, Try.ntmps10
    go_wp2
    go_ret
    exact ⟨by rw [HV.out]; rfl, rfl⟩
  by_cases t7 : 20 < op
  · have HV := Lib.hid (show argsN op = 0 by unfold argsN; rw [if_neg (by omega), if_neg (by omega), if_pos (by omega)])
    go_enter Try.func10, Try.ntmps10
    go_wp2
    go_ret
    exact ⟨by rw [HV.out]; rfl, rfl⟩
  have HV := Lib.hid (show argsN op = 1 by unfold argsN; rw [if_neg (by omega), if_neg (by omega), if_neg (by omega)])
  have g1 : decide (1 ≤ op) = true := decide_eq_true (by omega)
  have g2 : decide (op ≤ 20) = true := decide_eq_true (by omega)
  go_enter Try.func10, Try.ntmps10
  go_wp2
  go_ret
  exact ⟨by rw [HV.out]; rfl, rfl⟩
theorem rargs_any (op : Int) (w : World) : Calls Try.prog 11 #[.int .i64 op] w fun e w' => e = .returned (.int .i64 (argsN op)) ∧ w = w' := by
  by_cases t0 : op = 7
  · subst t0
    go_enter Try.func11, Try.ntmps11
    go_wp2
    go_ret
    exact ⟨rfl, rfl⟩
  have e0 : (op == (7 : Int)) = false := by simp [t0]
  by_cases t1 : op = 9
  · subst t1
    go_enter Try.func11, Try.ntmps11
    go_wp2
    go_ret
    exact ⟨rfl, rfl⟩
  have e1 : (op == (9 : Int)) = false := by simp [t1]
  by_cases t2 : op = 1
  · subst t2
    go_enter Try.func11, Try.ntmps11
    go_wp2
    go_ret
    exact ⟨rfl, rfl⟩
  have e2 : (op == (1 : Int)) = false := by simp [t2]
  by_cases t3 : op = 6
  · subst t3
    go_enter Try.func11, Try.ntmps11
    go_wp2
    go_ret
    exact ⟨rfl, rfl⟩
  have e3 : (op == (6 : Int)) = false := by simp [t3]
  by_cases t4 : op = 8
  · subst t4
    go_enter Try.func11, Try.ntmps11
    go_wp2
    go_ret
    exact ⟨rfl, rfl⟩
  have e4 : (op == (8 : Int)) = false := by simp [t4]
  by_cases t5 : op = 10
  · subst t5
    go_enter Try.func11, Try.ntmps11
    go_wp2
    go_ret
    exact ⟨rfl, rfl⟩
  have e5 : (op == (10 : Int)) = false := by simp [t5]
  by_cases t6 : op < 1
  · have HV := Lib.hid (show argsN op = 0 by unfold argsN; rw [if_neg (by omega), if_neg (by omega), if_pos (by omega)])
    go_enter Try.func11, Try.ntmps11
    go_wp2
    go_ret
    exact ⟨by rw [HV.out]; rfl, rfl⟩
  by_cases t7 : 20 < op
  · have HV := Lib.hid (show argsN op = 0 by unfold argsN; rw [if_neg (by omega), if_neg (by omega), if_pos (by omega)])
    go_enter Try.func11, Try.ntmps11
    go_wp2
    go_ret
    exact ⟨by rw [HV.out]; rfl, rfl⟩
  have HV := Lib.hid (show argsN op = 1 by unfold argsN; rw [if_neg (by omega), if_neg (by omega), if_neg (by omega)])
  have g1 : decide (1 ≤ op) = true := decide_eq_true (by omega)
  have g2 : decide (op ≤ 20) = true := decide_eq_true (by omega)
  go_enter Try.func11, Try.ntmps11
  go_wp2
  go_ret
  exact ⟨by rw [HV.out]; rfl, rfl⟩
theorem awake_any (w : World) : Calls Try.prog 9 #[] w fun e w' => e = .returned (.bool true) ∧ Below w.heap.size w w' := by
  have hr : Reads (w.alloc (.cells #[.int .i64 1, .int .i64 1, .int .i64 0, .int .i64 0, .int .u64 5] 60)) (w.alloc (.cells #[.int .i64 1, .int .i64 1, .int .i64 0, .int .i64 0, .int .u64 5] 60)).heap.size 5 (some ⟨w.heap.size, 0, none⟩) 1 1 (([⟨1, 1, 0, 0, 5#64⟩] : List NI).flatMap insCells) :=
    Reads.freshAs w _ _ 5 1 _ rfl rfl (by decide)
  have hp : encC 0 [⟨1, 1, 0, 0, 5#64⟩] = ([0#64, 257#64, 5#64], 0) := by decide
  have HP := Lib.hid hp
  clear hp
  go_enter Try.func9, Try.ntmps9
  go_wp2_with fail
  refine (encode_any 0 _ 1 1 [⟨1, 1, 0, 0, 5#64⟩] _ hr).mono ?_
  rw [HP.out]
  rintro e w1 ⟨A1, c1, rfl, hr1, hb1⟩
  obtain ⟨b, off, rfl, hbb, hc⟩ := hr1.at_ (by decide)
  have d1 : w1.cell? ⟨b, off + 1, none⟩ = some (.int .u64 257) := hc 1 _ rfl
  have d2 : w1.cell? ⟨b, off + 2, none⟩ = some (.int .u64 5) := hc 2 _ rfl
  simp only [List.length_cons, List.length_nil] at hr1 ⊢
  clear hc
  go_wp2_with fail
  go_ret
  exact ⟨rfl, keep_below hb1 (keep_alloc (Below.refl _ _) _)⟩
end Go.Proofs.Ytpmdgmgcbminaaa

/- Native programs: which jumps stay within the program, which registers exist (targets, registers; takesB, Sound). -/
import Derived.Test.YtpmdgmgcbminaaaNcode3
import Derived.Deep.RegionHeld3
namespace Go.Proofs.Ytpmdgmgcbminaaa
open Go.ChangeShapes Go.WideShapes Go.RowKit Words

def jumps (x : NI) : Bool := decide (x.op = 9 ∨ x.op = 10)
def targetsI (n : Nat) (x : NI) : Bool := !jumps x || decide (U x.k ≤ n)
def takesBI (op : Int) : Bool := decide ((2 ≤ op ∧ op ≤ 8) ∨ op = 11 ∨ op = 12)
def regsI (x : NI) : Bool := if takesBI x.op = true then decide (x.b < 8) else if x.op = 13 then decide (x.c + argsN x.b ≤ 8) else true
def soundI (n : Nat) (x : NI) : Bool := targetsI n x && regsI x
theorem quiet_v {P : Program} {f : FuncId} {args : Array Value} {w : World} {n : Nat} {v : Value}
    (h : Calls P f args (w.drewN n) fun e w' => e = .returned v ∧ w.drewN n = w') : Calls P f args (w.drewN n) fun e w'' => e = .returned v ∧ ∃ m, w'' = w.drewN m :=
  h.mono fun _ _ ⟨he, hm⟩ => ⟨he, n, hm.symm⟩
theorem args_val (op ar : Int) (w : World) (h : argsN op = ar) : Calls Try.prog 10 #[.int .i64 op] w fun e w' => e = .returned (.int .i64 ar) ∧ w = w' := by
  rw [← h]; exact args_any op w
theorem rargs_valC (op ar : Int) (w : World) (h : argsN op = ar) : Calls Try.prog 11 #[.int .i64 op] w fun e w' => e = .returned (.int .i64 ar) ∧ w = w' := by
  rw [← h]; exact rargs_any op w

set_option maxHeartbeats 1000000 in
theorem targets_any (g : Int) (A : Option Addr) (n c : Nat) (x : NI) (w : World) (hn : n ≤ 1000000) :
    Calls Try.prog 32 #[codeV g A n c, insV x] w fun e w' => e = .returned (.bool (targetsI n x)) ∧ Below w.heap.size w w' := by
  obtain ⟨op, a, b, c', k⟩ := x
  have hB : Below w.heap.size w ((w.alloc (.cells #[.int .i64 g, .slice A n c] 37)).alloc (.cells #[.int .i64 op, .int .i64 a, .int .i64 b, .int .i64 c', .int .u64 (U k)] 60)) := keep_alloc (code_alloc w _ g A n c) _
  have P0 : ((w.alloc (.cells #[.int .i64 g, .slice A n c] 37)).alloc (.cells #[.int .i64 op, .int .i64 a, .int .i64 b, .int .i64 c', .int .u64 (U k)] 60)).cell? ⟨w.heap.size, 1, none⟩ = some (.slice A n c) := ((Blk.new w _ _).alloc _).cell 1 _ rfl
  by_cases h1 : op = 9 ∨ op = 10
  · have hw : IntKind.u64.wrap (n : Int) = n := IntWalk.u64_in _ (by omega)
    have HV := Lib.hid (show targetsI n ⟨op, a, b, c', k⟩ = decide (U k ≤ (n : Int)) from by unfold targetsI jumps; simp only; rw [decide_eq_true h1]; simp)
    rcases h1 with rfl | rfl
    · go_enter Try.func32, Try.ntmps32
      go_wp2_with fail
      go_ret
      exact ⟨ret_nb HV.out.symm, hB⟩
    · go_enter Try.func32, Try.ntmps32
      go_wp2_with fail
      go_ret
      exact ⟨ret_nb HV.out.symm, hB⟩
  · have HV := Lib.hid (show targetsI n ⟨op, a, b, c', k⟩ = true from by unfold targetsI jumps; simp only; rw [decide_eq_false h1]; simp)
    have h9 : (op != 9) = true := by simp; omega
    have h10 : (op != 10) = true := by simp; omega
    clear h1
    go_enter Try.func32, Try.ntmps32
    go_wp2_with fail
    go_ret
    exact ⟨ret_nb HV.out.symm, hB⟩

set_option maxHeartbeats 4000000 in
theorem registers_any (x : NI) (w : World) (hf : formedI x = true) :
    Calls Try.prog 33 #[insV x] w fun e w' => e = .returned (.bool (regsI x)) ∧ Below w.heap.size w w' := by
  obtain ⟨op, a, b, c', k⟩ := x
  obtain ⟨⟨h1, h2⟩, -, ⟨hb0, hb1⟩, hc0, hc1⟩ := (formedI_iff _).1 hf
  dsimp only at h1 h2 hb0 hb1 hc0 hc1
  clear hf
  have hB : Below w.heap.size w (w.alloc (.cells #[.int .i64 op, .int .i64 a, .int .i64 b, .int .i64 c', .int .u64 (U k)] 60)) := keep_alloc (Below.refl _ _) _
  by_cases h13 : op = 13
  · subst h13
    obtain ⟨ar, har⟩ : ∃ ar, argsN b = ar := ⟨_, rfl⟩
    have hr := argsN_range b
    rw [har] at hr
    have HV := Lib.hid (show regsI ⟨13, a, b, c', k⟩ = decide (c' + ar ≤ 8) from by unfold regsI takesBI; simp [har])
    have HAR := Lib.hid har
    clear har
    have hw : IntKind.i64.wrap (c' + ar) = c' + ar := IntWalk.i64_in _ (by omega)
    go_enter Try.func33, Try.ntmps33
    go_wp2_with fail
    go_quiet ((go_at_call 10; exact quiet_v (args_val _ _ _ HAR.out)))
    go_wp2_with fail
    go_ret
    exact ⟨ret_nb HV.out.symm, below_drewN hB _⟩
  · have hcs : takesBI op = true ∨ (takesBI op = false ∧ (op = 1 ∨ op = 9 ∨ op = 10 ∨ op = 14 ∨ op = 15 ∨ op = 16 ∨ op = 17)) := by
      unfold takesBI; simp; omega
    rcases hcs with ht | ⟨ht, ho⟩
    · have HV := Lib.hid (show regsI ⟨op, a, b, c', k⟩ = decide (b < 8) from by unfold regsI; simp only; rw [if_pos ht])
      have ho : op = 2 ∨ op = 3 ∨ op = 4 ∨ op = 5 ∨ op = 6 ∨ op = 7 ∨ op = 8 ∨ op = 11 ∨ op = 12 := by
        unfold takesBI at ht; simp at ht; omega
      clear ht h13 h1 h2
      rcases ho with rfl | rfl | rfl | rfl | rfl | rfl | rfl | rfl | rfl
      all_goals
        go_enter Try.func33, Try.ntmps33
        go_wp2_with fail
        go_ret
        exact ⟨ret_nb HV.out.symm, hB⟩
    · have HV := Lib.hid (show regsI ⟨op, a, b, c', k⟩ = true from by unfold regsI; simp only; rw [if_neg (by simp [ht]), if_neg h13])
      clear ht h13 h1 h2
      rcases ho with rfl | rfl | rfl | rfl | rfl | rfl | rfl
      all_goals
        go_enter Try.func33, Try.ntmps33
        go_wp2_with fail
        go_ret
        exact ⟨ret_nb HV.out.symm, hB⟩

set_option maxHeartbeats 4000000 in
theorem takesB_any (op : Int) (w : World) (h : 1 ≤ op ∧ op ≤ 17) :
    Calls Try.prog 47 #[.int .i64 op] w fun e w' => e = .returned (.bool (takesBI op)) ∧ w = w' := by
  have ho : op = 1 ∨ op = 2 ∨ op = 3 ∨ op = 4 ∨ op = 5 ∨ op = 6 ∨ op = 7 ∨ op = 8 ∨ op = 9 ∨ op = 10 ∨ op = 11 ∨ op = 12 ∨ op = 13 ∨ op = 14 ∨ op = 15 ∨ op = 16 ∨ op = 17 := by omega
  clear h
  rcases ho with rfl | rfl | rfl | rfl | rfl | rfl | rfl | rfl | rfl | rfl | rfl | rfl | rfl | rfl | rfl | rfl | rfl
  all_goals
    go_enter Try.func47, Try.ntmps47
    go_wp2_with fail
    go_ret
    exact ⟨ret_nb (by decide), rfl⟩

set_option maxHeartbeats 4000000 in
theorem sound_any (g : Int) (A : Option Addr) (n c : Nat) (x : NI) (w : World) (hn : n ≤ 1000000) (hf : formedI x = true) :
    Calls Try.prog 34 #[codeV g A n c, insV x] w fun e w' => e = .returned (.bool (soundI n x)) ∧ Below w.heap.size w w' := by
  obtain ⟨op, a, b, c', k⟩ := x
  obtain ⟨⟨h1, h2⟩, -, ⟨hb0, hb1⟩, hc0, hc1⟩ := (formedI_iff _).1 hf
  dsimp only at h1 h2 hb0 hb1 hc0 hc1
  clear hf
  have hB : Below w.heap.size w ((w.alloc (.cells #[.int .i64 g, .slice A n c] 27)).alloc (.cells #[.int .i64 op, .int .i64 a, .int .i64 b, .int .i64 c', .int .u64 (U k)] 58)) := keep_alloc (code_alloc w _ g A n c) _
  have P0 : ((w.alloc (.cells #[.int .i64 g, .slice A n c] 27)).alloc (.cells #[.int .i64 op, .int .i64 a, .int .i64 b, .int .i64 c', .int .u64 (U k)] 58)).cell? ⟨w.heap.size, 1, none⟩ = some (.slice A n c) := ((Blk.new w _ _).alloc _).cell 1 _ rfl
  have hw : IntKind.u64.wrap (n : Int) = n := IntWalk.u64_in _ (by omega)
  obtain ⟨tb, htb⟩ : ∃ tb, takesBI op = tb := ⟨_, rfl⟩
  have HTB := Lib.hid htb
  by_cases hb : tb = true ∧ ¬ b < 8
  · obtain ⟨rfl, hb8⟩ := hb
    have HV := Lib.hid (show soundI n ⟨op, a, b, c', k⟩ = false from by unfold soundI regsI; simp only; rw [if_pos htb, decide_eq_false hb8]; simp)
    have hgt : decide (7 < b) = true := by simp; omega
    clear htb
    go_enter Try.func34, Try.ntmps34
    go_wp2_with ((go_at_call 47; refine (takesB_any _ _ ⟨h1, h2⟩).mono ?_; rw [HTB.out]; rintro e w' ⟨rfl, rfl⟩))
    go_ret
    exact ⟨ret_nb HV.out.symm, hB⟩
  by_cases hj : (op = 9 ∨ op = 10) ∧ ¬ U k ≤ (n : Int)
  · obtain ⟨hj, hk⟩ := hj
    have HV := Lib.hid (show soundI n ⟨op, a, b, c', k⟩ = false from by unfold soundI targetsI jumps; simp only; rw [decide_eq_true hj, decide_eq_false hk]; simp)
    have htf : tb = false := by rw [← htb]; unfold takesBI; simp; omega
    subst htf
    have hgt : decide ((n : Int) < U k) = true := by simp; omega
    clear htb hb hk
    rcases hj with rfl | rfl
    all_goals
      go_enter Try.func34, Try.ntmps34
      go_wp2_with ((go_at_call 47; refine (takesB_any _ _ ⟨h1, h2⟩).mono ?_; rw [HTB.out]; rintro e w' ⟨rfl, rfl⟩))
      go_ret
      exact ⟨ret_nb HV.out.symm, hB⟩
  have hv : soundI n ⟨op, a, b, c', k⟩ = (if op = 13 then decide (c' + argsN b ≤ 8) else true) := by
    unfold soundI targetsI jumps regsI
    simp only
    have e1 : (!decide (op = 9 ∨ op = 10) || decide (U k ≤ (n : Int))) = true := by
      by_cases h : op = 9 ∨ op = 10
      · rw [decide_eq_true h, decide_eq_true (by have := not_and.1 hj h; omega)]; rfl
      · rw [decide_eq_false h]; rfl
    rw [e1, Bool.true_and]
    by_cases ht : takesBI op = true
    · rw [if_pos ht]
      have h8 : b < 8 := by
        by_cases h : b < 8
        · exact h
        · exact absurd ⟨htb ▸ ht, h⟩ hb
      rw [decide_eq_true h8, if_neg]
      unfold takesBI at ht; simp at ht; omega
    · rw [if_neg ht]
  have hb7 : tb = true → decide (7 < b) = false := fun h => by
    have := not_and.1 hb h
    simp; omega
  by_cases h13 : op = 13
  · subst h13
    have htf : tb = false := by rw [← htb]; rfl
    subst htf
    obtain ⟨ar, har⟩ : ∃ ar, argsN b = ar := ⟨_, rfl⟩
    have hr := argsN_range b
    rw [har] at hr hv
    rw [if_pos rfl] at hv
    have HV := Lib.hid hv
    have HAR := Lib.hid har
    have hwc : IntKind.i64.wrap (c' + ar) = c' + ar := IntWalk.i64_in _ (by omega)
    clear har hv htb hb hj hb7
    go_enter Try.func34, Try.ntmps34
    go_wp2_with ((go_at_call 47; refine (takesB_any _ _ ⟨h1, h2⟩).mono ?_; rw [HTB.out]; rintro e w' ⟨rfl, rfl⟩))
    go_quiet ((go_at_call 11; exact quiet_v (rargs_valC _ _ _ HAR.out)))
    go_wp2_with fail
    go_ret
    exact ⟨ret_nb HV.out.symm, below_drewN hB _⟩
  · rw [if_neg h13] at hv
    have HV := Lib.hid hv
    have ho13 : (op != 13) = true := by simp [h13]
    by_cases hjj : op = 9 ∨ op = 10
    · have hk : decide ((n : Int) < U k) = false := by have := not_and.1 hj hjj; simp; omega
      have htf : tb = false := by rw [← htb]; unfold takesBI; simp; omega
      subst htf
      clear htb hb hj hv hb7 h13
      rcases hjj with rfl | rfl
      all_goals
        go_enter Try.func34, Try.ntmps34
        go_wp2_with ((go_at_call 47; refine (takesB_any _ _ ⟨h1, h2⟩).mono ?_; rw [HTB.out]; rintro e w' ⟨rfl, rfl⟩))
        go_quiet (fail)
        go_wp2_with fail
        go_ret
        exact ⟨ret_nb HV.out.symm, below_drewN hB _⟩
    · have h9 : (op == 9) = false := by simp; omega
      have h10 : (op == 10) = false := by simp; omega
      clear htb hb hj hv h13 hjj
      cases tb with
      | true =>
        have hb7' := hb7 rfl
        clear hb7
        go_enter Try.func34, Try.ntmps34
        go_wp2_with ((go_at_call 47; refine (takesB_any _ _ ⟨h1, h2⟩).mono ?_; rw [HTB.out]; rintro e w' ⟨rfl, rfl⟩))
        go_quiet (fail)
        go_wp2_with fail
        go_ret
        exact ⟨ret_nb HV.out.symm, below_drewN hB _⟩
      | false =>
        clear hb7
        go_enter Try.func34, Try.ntmps34
        go_wp2_with ((go_at_call 47; refine (takesB_any _ _ ⟨h1, h2⟩).mono ?_; rw [HTB.out]; rintro e w' ⟨rfl, rfl⟩))
        go_quiet (fail)
        go_wp2_with fail
        go_ret
        exact ⟨ret_nb HV.out.symm, below_drewN hB _⟩
end Go.Proofs.Ytpmdgmgcbminaaa

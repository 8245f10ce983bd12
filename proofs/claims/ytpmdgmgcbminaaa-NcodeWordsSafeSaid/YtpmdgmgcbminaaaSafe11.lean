/- The reference's after. Printed by mk_safe11.py. -/
import Derived.Test.YtpmdgmgcbminaaaSafeLaw
namespace Go.Proofs.Ytpmdgmgcbminaaa
open Go.ChangeShapes Go.WideShapes Go.RowKit Words

theorem RS_size {l : List Srt} (hl : l.length = 8) : (RS l).size = 8 := IS_size (nums_len hl)
theorem RS_one (l : List Srt) : (RS l).all (·.oneCell') = true := IS_one _
theorem exec_ldS {a : Act} {w : World} {t : TypeId} {g : Nat} {x : Operand} {l : List Srt} {op : Oper} (ho : op.op = .load 86 x) (hx : a.eval x = .pointer (some ⟨g, 0, none⟩)) (hb : Blk w g t (RS l)) (hl : l.length = 8) :
    (execOp a.eval op).run Try.prog w = .ok (.value (.agg (RS l))) w := by
  unfold execOp
  simp only [ho, hx, Sem.run_bind, ld_blk Try.underlying86 (by rw [RS_size hl]; exact infoIS) hb, Result.andThen_ok, Sem.run_pure]
theorem wp_stS {a : Act} {w : World} {K : Act → World → Prop} {Q : Exit → Act → World → Prop} {t : TypeId} {g : Nat} {x y : Operand} {l : List Srt} {old : Array Value} {op : Oper} (ho : op.op = .store 86 x y)
    (hx : a.eval x = .pointer (some ⟨g, 0, none⟩)) (hy : a.eval y = .agg (RS l)) (hb : Blk w g t old) (hz : old.size = 8) (hl : l.length = 8)
    (h : K (a.put op.dst undef) (w.setRow g (RS l))) : op.wp Try.prog a w K Q := by
  unfold Oper.wp execOp
  simp only [ho, hx, hy, Sem.run_bind, st_blk (P := Try.prog) (T := 86) (by rw [RS_size hl]; exact infoIS) (by rw [RS_size hl, hz]) (RS_one l) hb, Result.andThen_ok, Sem.run_pure]
  exact h
theorem quiet_ldS {C : World → Prop} {o : Oper} {K : Act → Prop} {a : Act} {x : Operand} {g : Nat} {t : TypeId} {l : List Srt} (ho : o.op = .load 86 x) (hx : a.eval x = .pointer (some ⟨g, 0, none⟩)) (hb : ∀ w, C w → Blk w g t (RS l)) (hl : l.length = 8) (h : K (a.put o.dst (.agg (RS l)))) :
    o.quiet Try.prog a C K := ⟨_, fun w hw => by unfold Oper.quietAt; rw [exec_ldS ho hx (hb w hw) hl]; exact ⟨rfl, rfl⟩, h⟩
theorem num_z (p : Srt) : (p.num == 0) = decide (p = .wd) := by
  cases p with
  | wd => rfl
  | stale => rfl
  | raw i => rw [Bool.eq_iff_iff, beq_iff_eq, decide_eq_true_eq]; exact ⟨fun h => by simp only [Srt.num] at h; omega, fun h => (by cases h)⟩
theorem num_o (p : Srt) : (p.num != 1) = decide (p ≠ .stale) := by
  cases p with
  | wd => rfl
  | stale => rfl
  | raw i => rw [Bool.eq_iff_iff, bne_iff_ne, decide_eq_true_eq]; exact ⟨fun _ h => (by cases h), fun _ h => by simp only [Srt.num] at h; omega⟩
theorem num_e (p q : Srt) : (p.num == q.num) = decide (p = q) := by
  rw [Bool.eq_iff_iff, beq_iff_eq, decide_eq_true_eq]
  exact ⟨Srt.num_inj, fun h => by rw [h]⟩
theorem rwords_val {s : List Srt} (hs : s.length = 8) {c : Nat} (hc : c < 8) (w : World) :
    Calls Try.prog 54 #[.agg (RS s), .int .i64 c, .int .i64 8] w fun e w' => e = .returned (.bool (wordsS s c 8)) ∧ Below w.heap.size w w' := by
  have := rwords_any s hs c 8 hc (by omega) w
  rw [show min (c + 8) 8 = 8 by omega] at this
  exact this
/-- the reference's pair, of sorts -/
def pairS (op : Int) (b c : Srt) : Srt × Bool :=
  if op = 3 then (if b.isRaw && decide (c = .wd) then (b, true) else if decide (b = .wd) && c.isRaw then (c, true) else (.wd, decide (b = .wd) && decide (c = .wd)))
  else if op = 4 then (if b.isRaw && decide (c = .wd) then (b, true) else (.wd, decide (b = c) && decide (b ≠ .stale)))
  else if op = 8 then (.wd, decide (b = c) && decide (b ≠ .stale))
  else (.wd, decide (b = .wd) && decide (c = .wd))
theorem pair_num (op : Int) (b c : Srt) : pairI op b.num c.num = ((pairS op b c).1.num, (pairS op b c).2) := by
  unfold pairI pairS
  rw [num_z, num_z, num_e, num_o, Srt.num_is, Srt.num_is]
  by_cases h3 : op = 3
  · rw [if_pos h3, if_pos h3]
    by_cases h : (b.isRaw && decide (c = .wd)) = true
    · rw [if_pos h, if_pos h]
    · rw [if_neg h, if_neg h]
      by_cases h' : (decide (b = .wd) && c.isRaw) = true
      · rw [if_pos h', if_pos h']
      · rw [if_neg h', if_neg h']; rfl
  · rw [if_neg h3, if_neg h3]
    by_cases h4 : op = 4
    · rw [if_pos h4, if_pos h4]
      by_cases h : (b.isRaw && decide (c = .wd)) = true
      · rw [if_pos h, if_pos h]
      · rw [if_neg h, if_neg h]; rfl
    · rw [if_neg h4, if_neg h4]
      by_cases h8 : op = 8
      · rw [if_pos h8, if_pos h8]; rfl
      · rw [if_neg h8, if_neg h8]; rfl
theorem pair_val {op : Int} (ho : 3 ≤ op ∧ op ≤ 8) {b c : Srt} {r : Srt} {v : Bool} (h : pairS op b c = (r, v)) (w : World) :
    Calls Try.prog 51 #[.int .i64 op, .int .i64 b.num, .int .i64 c.num] w fun e w' => e = .returned (.tuple #[.int .i64 r.num, .bool v]) ∧ w = w' := by
  have := pair_any op b.num c.num ho w
  rw [pair_num, h] at this
  exact this
/-- what an instruction without jump or call computes, and whether it is allowed: the reference's -/
def refS (op : Int) (b c : Srt) : Srt × Bool :=
  if op = 2 then (b, decide (b ≠ .stale)) else if 3 ≤ op ∧ op ≤ 8 then pairS op b c else if op = 11 then (.wd, b.isRaw) else (.wd, true)
/-- the sorts after an instruction, and whether its rule is obeyed: the reference's -/
def afterR (s : List Srt) (op : Int) (a : Nat) (b : Int) (c : Nat) (i : Nat) (pa pb pc : Srt) : List Srt × Bool :=
  if op = 9 then (s, true)
  else if op = 10 ∨ op = 15 ∨ op = 17 then (s, decide (pa = .wd))
  else if op = 12 then (s, pa.isRaw && decide (pb = .wd))
  else if op = 14 then (s.set a .wd, wordsS s c 8)
  else if op = 13 then (calledS s a b i, wordsS s c (min (c + (argsN b).toNat) 8))
  else (s.set a (refS op pb pc).1, (refS op pb pc).2)

set_option linter.unusedSimpArgs false in
set_option maxRecDepth 100000 in
set_option maxHeartbeats 8000000 in
theorem rafter_any (s : List Srt) (hs : s.length = 8) (op : Int) (an bn cn : Nat) (ha8 : an < 8) (hb8 : bn ≤ 255) (hc8 : cn < 8) (k : BitVec 64) (i : Nat) (hi : i ≤ 1000) (pa pb pc : Srt) (hpa : s[an]? = some pa) (hbb : takesBI op = true → s[bn]? = some pb) (hpc : s[cn]? = some pc) (w : World) :
    Calls Try.prog 39 #[.agg (RS s), .agg #[.int .i64 op, .int .i64 (an : Nat), .int .i64 (bn : Nat), .int .i64 (cn : Nat), .int .u64 (U k)], .int .i64 i] w fun e w' => e = .returned (.tuple #[.agg (RS (afterR s op an bn cn i pa pb pc).1), .bool (afterR s op an bn cn i pa pb pc).2]) ∧ Below w.heap.size w w' := by
  have hB : Below w.heap.size w (((w.alloc (.cells (RS s) 86)).alloc (.cells #[.int .i64 op, .int .i64 (an : Nat), .int .i64 (bn : Nat), .int .i64 (cn : Nat), .int .u64 (U k)] 58)).alloc (.cells #[.int .i64 0, .int .i64 0, .int .i64 0, .int .i64 0, .int .i64 0, .int .i64 0, .int .i64 0, .int .i64 0] 86)) := keep_alloc (keep_alloc (keep_alloc (Below.refl _ _) _) _) _
  have B2 := ((Blk.new w (RS s) 86).alloc (.cells #[.int .i64 op, .int .i64 (an : Nat), .int .i64 (bn : Nat), .int .i64 (cn : Nat), .int .u64 (U k)] 58)).alloc (.cells #[.int .i64 0, .int .i64 0, .int .i64 0, .int .i64 0, .int .i64 0, .int .i64 0, .int .i64 0, .int .i64 0] 86)
  have B3 := (Blk.newAt (w.alloc (.cells (RS s) 86)) #[.int .i64 op, .int .i64 (an : Nat), .int .i64 (bn : Nat), .int .i64 (cn : Nat), .int .u64 (U k)] 58 (w.heap.size + 1) (by simp)).alloc (.cells #[.int .i64 0, .int .i64 0, .int .i64 0, .int .i64 0, .int .i64 0, .int .i64 0, .int .i64 0, .int .i64 0] 86)
  have B4 := Blk.newAt ((w.alloc (.cells (RS s) 86)).alloc (.cells #[.int .i64 op, .int .i64 (an : Nat), .int .i64 (bn : Nat), .int .i64 (cn : Nat), .int .u64 (U k)] 58)) #[.int .i64 0, .int .i64 0, .int .i64 0, .int .i64 0, .int .i64 0, .int .i64 0, .int .i64 0, .int .i64 0] 86 (w.heap.size + 1 + 1) (by simp)
  have a0 : (0 : Int) ≤ (an : Int) := by omega
  have a1 : (an : Int) < 8 := by omega
  go_enter Try.func39, Try.ntmps39
  go_upto_region 2 with fail
  obtain ⟨w0, hw0⟩ : ∃ w0, ((w.alloc (.cells (RS s) 86)).alloc (.cells #[.int .i64 op, .int .i64 (an : Nat), .int .i64 (bn : Nat), .int .i64 (cn : Nat), .int .u64 (U k)] 58)).alloc (.cells #[.int .i64 0, .int .i64 0, .int .i64 0, .int .i64 0, .int .i64 0, .int .i64 0, .int .i64 0, .int .i64 0] 86) = w0 := ⟨_, rfl⟩
  rw [hw0] at hB B2 B3 B4 ⊢
  clear hw0
  obtain ⟨g, hg⟩ : ∃ g, w.heap.size = g := ⟨_, rfl⟩
  rw [hg] at hB B2 B3 B4 ⊢
  have HA := Lib.hid hg
  clear hg
  obtain ⟨g4, hg4⟩ : ∃ g4, g + 1 + 1 = g4 := ⟨_, rfl⟩
  have hgg : g + 1 < g4 := by omega
  rw [hg4] at B4 ⊢
  clear hg4
  have i0 := B3.cell 0 _ rfl
  have i1 := B3.cell 1 _ rfl
  have i2 := B3.cell 2 _ rfl
  have i3 := B3.cell 3 _ rfl
  have i4 := B3.cell 4 _ rfl
  have ka := RS_far B2 hpa
  have kc := RS_far B2 hpc
  have hfin : ∀ (r : List Srt) (v : Bool), afterR s op an bn cn i pa pb pc = (r, v) → r.length = 8 → ∀ a', a'.defers = [] → a'.tmps[6]?.getD undef = .pointer (some ⟨g4, 0, none⟩) → a'.tmps[7]?.getD undef = .bool v → ∀ wz, Blk wz g4 86 (RS r) → Below g w wz →
      bodyPost Try.prog Try.f39 (fun e w' => e = .returned (.tuple #[.agg (RS (afterR s op an bn cn i pa pb pc).1), .bool (afterR s op an bn cn i pa pb pc).2]) ∧ Below w.heap.size w w') .ret a' wz := by
    intro r v hr hrl a' hdef h4 h5 wz G hbz
    rw [hr]
    refine bodyPost_ret (v := .tuple #[.agg (RS r), .bool v]) ?_ hdef ⟨rfl, by rw [HA.out]; exact hbz⟩
    have hlv := lvS G hrl
    simp [results, Try.results39, h4, h5, asAddr, hlv]
  have HF := Lib.hid hfin
  clear hfin
  by_cases h9 : op = 9
  · subst h9
    have hr : afterR s 9 an bn cn i pa pb pc = (s, true) := by unfold afterR; rw [if_pos rfl]
    have HR := Lib.hid hr
    clear hr
    go_wp2_with (first | (refine ldS rfl rfl rfl B2 hs ?_) | (refine stS rfl rfl rfl rfl B4 rfl hs ?_))
    exact HF.out _ _ HR.out hs _ rfl rfl rfl _ (B4.row _) (keep_row hB (by omega) _)
  have t9 : (op == 9) = false := beq_false_of_ne h9
  by_cases h10 : op = 10 ∨ op = 15 ∨ op = 17
  · have hr : afterR s op an bn cn i pa pb pc = (s, pa.num == 0) := by unfold afterR; rw [if_neg h9, if_pos h10, num_z]
    have HR := Lib.hid hr
    clear hr
    rcases h10 with rfl | rfl | rfl
    all_goals
      go_upto_region 17 with fail
      have hS0 : (fun w' => Blk w' g 86 (RS s) ∧ w'.cell? ⟨g + 1, 1, none⟩ = some (.int .i64 (an : Nat)) ∧ w'.cell? ⟨g, an, none⟩ = some (.int .i64 pa.num)) (World.drew _) := ⟨B2, i1, ka⟩
      refine wp_region_noPanic ?_
      refine wp_region_held_drew (S := (fun w' => Blk w' g 86 (RS s) ∧ w'.cell? ⟨g + 1, 1, none⟩ = some (.int .i64 (an : Nat)) ∧ w'.cell? ⟨g, an, none⟩ = some (.int .i64 pa.num))) (by kernel_rfl) hS0 (fun hHeld => ?_)
      clear hS0
      refine wpAnyH_take (i := 0) (v := .agg (RS s)) rfl (by kernel_rfl) (by kernel_rfl) (by kernel_rfl) (fun _ _ _ h => h) (Or.inl ⟨by rfl, fun wq hSw => exec_ldS rfl rfl hSw.1 hs⟩) (by assumption) ?_
      (try simp only [List.getElem_toArray, List.getElem_cons_zero, List.getElem_cons_succ, Act.put, List.setIfInBounds_toArray, List.set_cons_zero, List.set_cons_succ])
      refine wpAnyH_take (i := 1) (v := ?_) rfl (by kernel_rfl) (by kernel_rfl) (by kernel_rfl) (fun _ _ _ h => h) (Or.inl ⟨by rfl, ?_⟩) (by assumption) ?_
      rotate_left
      · intro wq hSw; (try dsimp only at hSw); go_simp; (try with_reducible rfl)
      (try simp only [List.getElem_toArray, List.getElem_cons_zero, List.getElem_cons_succ, Act.put, List.setIfInBounds_toArray, List.set_cons_zero, List.set_cons_succ])
      refine wpAnyH_take (i := 2) (v := ?_) rfl (by kernel_rfl) (by kernel_rfl) (by kernel_rfl) (fun _ _ _ h => h) (Or.inl ⟨by rfl, ?_⟩) (by assumption) ?_
      rotate_left
      · intro wq hSw; (try dsimp only at hSw); go_simp; (try with_reducible rfl)
      (try simp only [List.getElem_toArray, List.getElem_cons_zero, List.getElem_cons_succ, Act.put, List.setIfInBounds_toArray, List.set_cons_zero, List.set_cons_succ])
      refine wpAnyH_take (i := 3) (v := ?_) rfl (by kernel_rfl) (by kernel_rfl) (by kernel_rfl) (fun _ _ _ h => h) (Or.inl ⟨by rfl, ?_⟩) (by assumption) ?_
      rotate_left
      · intro wq hSw; (try dsimp only at hSw); go_simp; (try with_reducible rfl)
      (try simp only [List.getElem_toArray, List.getElem_cons_zero, List.getElem_cons_succ, Act.put, List.setIfInBounds_toArray, List.set_cons_zero, List.set_cons_succ])
      refine wpAnyH_take (i := 4) (v := ?_) rfl (by kernel_rfl) (by kernel_rfl) (by kernel_rfl) (fun _ _ _ h => h) (Or.inl ⟨by rfl, ?_⟩) (by assumption) ?_
      rotate_left
      · intro wq hSw; (try dsimp only at hSw); go_simp; (try with_reducible rfl)
      (try simp only [List.getElem_toArray, List.getElem_cons_zero, List.getElem_cons_succ, Act.put, List.setIfInBounds_toArray, List.set_cons_zero, List.set_cons_succ])
      refine wpAnyH_take (i := 5) (v := ?_) rfl (by kernel_rfl) (by kernel_rfl) (by kernel_rfl) (fun _ _ _ h => h) (Or.inl ⟨by rfl, ?_⟩) (by assumption) ?_
      rotate_left
      · intro wq hSw; (try dsimp only at hSw); go_simp; (try with_reducible rfl)
      (try simp only [List.getElem_toArray, List.getElem_cons_zero, List.getElem_cons_succ, Act.put, List.setIfInBounds_toArray, List.set_cons_zero, List.set_cons_succ])
      refine wpAnyH_ready (rs := [6]) (by kernel_rfl) (by simp) ?_
      refine AllReadyH.cons (i := 6) (by rfl) ?_ AllReadyH.nil
      intro K' hK
      refine if_yes (by kernel_rfl) ?_
      refine wp_stS rfl rfl rfl (B4.drew) rfl hs ?_
      refine hK.out _ _ ?_ (fun hHeld2 => ?_)
      · exact ⟨hHeld.1.rowFar (by omega) _, (cell_rowFar (by show g + 1 ≠ g4; omega) _).trans hHeld.2.1, (cell_rowFar (by show g ≠ g4; omega) _).trans hHeld.2.2⟩
      clear hK K' hHeld
      (try simp only [List.getElem_toArray, List.getElem_cons_zero, List.getElem_cons_succ, Act.put, List.setIfInBounds_toArray, List.set_cons_zero, List.set_cons_succ])
      have hHeld := hHeld2
      refine wpAnyH_take (i := 7) (v := ?_) rfl (by kernel_rfl) (by kernel_rfl) (by kernel_rfl) (fun _ _ _ h => h) (Or.inl ⟨by rfl, ?_⟩) (by assumption) ?_
      rotate_left
      · intro wq hSw; (try dsimp only at hSw); go_simp; (try with_reducible rfl)
      (try simp only [List.getElem_toArray, List.getElem_cons_zero, List.getElem_cons_succ, Act.put, List.setIfInBounds_toArray, List.set_cons_zero, List.set_cons_succ])
      refine wpAnyH_done (by kernel_rfl) ?_ _
      refine NoPanic.normal ?_
      go_wp2_with fail
      exact HF.out _ _ HR.out hs _ rfl rfl rfl _ (B4.drew.row _) (keep_row hB.drew (by omega) _)
  have t10 : (op == 10) = false := beq_false_of_ne (fun e => h10 (Or.inl e))
  have t15 : (op == 15) = false := beq_false_of_ne (fun e => h10 (Or.inr (Or.inl e)))
  have t17 : (op == 17) = false := beq_false_of_ne (fun e => h10 (Or.inr (Or.inr e)))
  by_cases h14 : op = 14
  · have hr : afterR s op an bn cn i pa pb pc = (s.set an .wd, wordsS s cn 8) := by unfold afterR; rw [if_neg h9, if_neg h10, if_neg (by omega), if_pos h14]
    subst h14
    have HR := Lib.hid hr
    clear hr t9 t10 t15 t17
    go_upto_region 26 with (first | (refine ldS rfl rfl rfl B2 hs ?_) | (go_at_call 54; refine (rwords_val hs hc8 _).mono ?_; rintro e w1 ⟨rfl, hb1⟩))
    have hlt4 := B4.lt
    have B2' := B2.below hb1
    have B4' := B4.below hb1
    have hB' := keep_belowA hb1 hB (by omega)
    have j1 := keep_cell hb1 i1
    have ea := RS_far B2' hpa
    have ef := B2'.free
    clear B2 B3 B4 hB i0 i1 i2 i3 i4 ka kc hb1
    go_upto_region 27 with fail
    have B2s := RS_set s an .wd ▸ B2'.set an (.int .i64 (Srt.num .wd))
    have B4s := B4'.far (p := ⟨g, an, none⟩) (by show g4 ≠ g; omega) (.int .i64 (Srt.num .wd))
    have hBs := hB'.setCell (p := ⟨g, an, none⟩) (Nat.le_refl _) (.int .i64 (Srt.num .wd))
    have hsl : (s.set an .wd).length = 8 := by rw [List.length_set]; exact hs
    clear B2' B4' hB' j1 ea ef
    go_wp2_with (first | (refine ldS rfl rfl rfl B2s hsl ?_) | (refine stS rfl rfl rfl rfl B4s rfl hsl ?_))
    exact HF.out _ _ HR.out hsl _ rfl rfl rfl _ (B4s.row _) (keep_row hBs (by omega) _)
  have t14 : (op == 14) = false := beq_false_of_ne h14
  by_cases h2 : op = 2
  · have hpb := hbb (by subst h2; rfl)
    have hb1' : bn < 8 := by have := (List.getElem?_eq_some_iff.1 hpb).1; omega
    have kb := RS_far B2 hpb
    have hr : afterR s op an bn cn i pa pb pc = (s.set an pb, pb.num != 1) := by unfold afterR refS; rw [if_neg h9, if_neg h10, if_neg (by omega), if_neg h14, if_neg (by omega), if_pos h2, num_o]
    subst h2
    have HR := Lib.hid hr
    clear hr t9 t10 t15 t17 t14
    go_upto_region 4 with fail
    have I2 := Lag.cell i2
    have KB := Lag.cell kb
    refine wp_region_lag (by kernel_rfl) (by kernel_rfl) ?_
    repeat (go_big_quiet_step (fail))
    refine wpQuiet_nil ?_
    rintro w1 ⟨uu, hu⟩
    have hb1 : Below w0.heap.size w0 w1 := hu ▸ uu.h
    clear hu uu I2 KB kb
    go_upto_region 26 with fail
    have hlt4 := B4.lt
    have B2' := B2.below hb1
    have B4' := B4.below hb1
    have hB' := keep_belowA hb1 hB (by omega)
    have j1 := keep_cell hb1 i1
    have ea := RS_far B2' hpa
    have ef := B2'.free
    clear B2 B3 B4 hB i0 i1 i2 i3 i4 ka kc hb1
    go_upto_region 27 with fail
    have B2s := RS_set s an pb ▸ B2'.set an (.int .i64 (Srt.num pb))
    have B4s := B4'.far (p := ⟨g, an, none⟩) (by show g4 ≠ g; omega) (.int .i64 (Srt.num pb))
    have hBs := hB'.setCell (p := ⟨g, an, none⟩) (Nat.le_refl _) (.int .i64 (Srt.num pb))
    have hsl : (s.set an pb).length = 8 := by rw [List.length_set]; exact hs
    clear B2' B4' hB' j1 ea ef
    go_wp2_with (first | (refine ldS rfl rfl rfl B2s hsl ?_) | (refine stS rfl rfl rfl rfl B4s rfl hsl ?_))
    exact HF.out _ _ HR.out hsl _ rfl rfl rfl _ (B4s.row _) (keep_row hBs (by omega) _)
  have t2 : (op == 2) = false := beq_false_of_ne h2
  by_cases h3 : 3 ≤ op ∧ op ≤ 8
  · have hpb := hbb (by unfold takesBI; exact decide_eq_true (Or.inl (by omega)))
    have hb1' : bn < 8 := by have := (List.getElem?_eq_some_iff.1 hpb).1; omega
    have kb := RS_far B2 hpb
    obtain ⟨r, v, hrv⟩ : ∃ r v, pairS op pb pc = (r, v) := ⟨_, _, rfl⟩
    have hr : afterR s op an bn cn i pa pb pc = (s.set an r, v) := by unfold afterR refS; rw [if_neg h9, if_neg h10, if_neg (by omega), if_neg h14, if_neg (by omega), if_neg h2, if_pos h3, hrv]
    have HR := Lib.hid hr
    have HRV := Lib.hid hrv
    have HO := Lib.hid h3
    clear hr hrv t9 t10 t15 t17 t14 t2
    have hop : op = 3 ∨ op = 4 ∨ op = 5 ∨ op = 6 ∨ op = 7 ∨ op = 8 := by omega
    clear h3
    rcases hop with rfl | rfl | rfl | rfl | rfl | rfl
    all_goals
      go_upto_region 11 with fail
      have I0 := Lag.cell i0
      have I2 := Lag.cell i2
      have I3 := Lag.cell i3
      have KB := Lag.cell kb
      have KC := Lag.cell kc
      refine wp_region_lag (by kernel_rfl) (by kernel_rfl) ?_
      repeat (go_big_quiet_step ((go_at_call 51; exact Calls.lag_same (pair_val HO.out HRV.out _))))
      refine wpQuiet_nil ?_
      rintro w1 ⟨uu, hu⟩
      have hb1 : Below w0.heap.size w0 w1 := hu ▸ uu.h
      clear hu uu I0 I2 I3 KB KC kb
      go_upto_region 26 with fail
      have hlt4 := B4.lt
      have B2' := B2.below hb1
      have B4' := B4.below hb1
      have hB' := keep_belowA hb1 hB (by omega)
      have j1 := keep_cell hb1 i1
      have ea := RS_far B2' hpa
      have ef := B2'.free
      clear B2 B3 B4 hB i0 i1 i2 i3 i4 ka kc hb1
      go_upto_region 27 with fail
      have B2s := RS_set s an r ▸ B2'.set an (.int .i64 (Srt.num r))
      have B4s := B4'.far (p := ⟨g, an, none⟩) (by show g4 ≠ g; omega) (.int .i64 (Srt.num r))
      have hBs := hB'.setCell (p := ⟨g, an, none⟩) (Nat.le_refl _) (.int .i64 (Srt.num r))
      have hsl : (s.set an r).length = 8 := by rw [List.length_set]; exact hs
      clear B2' B4' hB' j1 ea ef
      go_wp2_with (first | (refine ldS rfl rfl rfl B2s hsl ?_) | (refine stS rfl rfl rfl rfl B4s rfl hsl ?_))
      exact HF.out _ _ HR.out hsl _ rfl rfl rfl _ (B4s.row _) (keep_row hBs (by omega) _)
  have t3 : (op == 3) = false := beq_false_of_ne (by omega)
  have t4 : (op == 4) = false := beq_false_of_ne (by omega)
  have t5 : (op == 5) = false := beq_false_of_ne (by omega)
  have t6 : (op == 6) = false := beq_false_of_ne (by omega)
  have t7 : (op == 7) = false := beq_false_of_ne (by omega)
  have t8 : (op == 8) = false := beq_false_of_ne (by omega)
  by_cases h11 : op = 11
  · have hpb := hbb (by subst h11; rfl)
    have hb1' : bn < 8 := by have := (List.getElem?_eq_some_iff.1 hpb).1; omega
    have kb := RS_far B2 hpb
    have hr : afterR s op an bn cn i pa pb pc = (s.set an .wd, pb.isRaw) := by unfold afterR refS; rw [if_neg h9, if_neg h10, if_neg (by omega), if_neg h14, if_neg (by omega), if_neg h2, if_neg h3, if_pos h11]
    subst h11
    have HR := Lib.hid hr
    clear hr t9 t10 t15 t17 t14 t2 t3 t4 t5 t6 t7 t8
    go_upto_region 26 with (go_at_call 52; refine (raw_val _ _ (Srt.num_is pb) _).mono ?_; rintro e w1 ⟨rfl, rfl⟩)
    clear kb
    have B2' := B2
    have B4' := B4
    have hB' := hB
    have j1 := i1
    have ea := RS_far B2' hpa
    have ef := B2'.free
    clear B2 B3 B4 hB i0 i1 i2 i3 i4 ka kc
    go_upto_region 27 with fail
    have B2s := RS_set s an .wd ▸ B2'.set an (.int .i64 (Srt.num .wd))
    have B4s := B4'.far (p := ⟨g, an, none⟩) (by show g4 ≠ g; omega) (.int .i64 (Srt.num .wd))
    have hBs := hB'.setCell (p := ⟨g, an, none⟩) (Nat.le_refl _) (.int .i64 (Srt.num .wd))
    have hsl : (s.set an .wd).length = 8 := by rw [List.length_set]; exact hs
    clear B2' B4' hB' j1 ea ef
    go_wp2_with (first | (refine ldS rfl rfl rfl B2s hsl ?_) | (refine stS rfl rfl rfl rfl B4s rfl hsl ?_))
    exact HF.out _ _ HR.out hsl _ rfl rfl rfl _ (B4s.row _) (keep_row hBs (by omega) _)
  have t11 : (op == 11) = false := beq_false_of_ne h11
  by_cases h12 : op = 12
  · have hpb := hbb (by subst h12; rfl)
    have hb1' : bn < 8 := by have := (List.getElem?_eq_some_iff.1 hpb).1; omega
    have kb := RS_far B2 hpb
    have b0 : (0 : Int) ≤ (bn : Int) := by omega
    have b1 : (bn : Int) < 8 := by omega
    have hr : afterR s op an bn cn i pa pb pc = (s, pa.isRaw && (pb.num == 0)) := by unfold afterR; rw [if_neg h9, if_neg h10, if_pos h12, num_z]
    subst h12
    obtain ⟨rp, hrp⟩ : ∃ r, pa.isRaw = r := ⟨_, rfl⟩
    rw [hrp] at hr
    have HR := Lib.hid hr
    have HRP := Lib.hid hrp
    clear hr hrp t9 t10 t15 t17 t14 t2 t3 t4 t5 t6 t7 t8 t11
    cases rp
    · go_upto_region 21 with fail
      have hS0 : (fun w' => Blk w' g 86 (RS s) ∧ w'.cell? ⟨g + 1, 1, none⟩ = some (.int .i64 (an : Nat)) ∧ w'.cell? ⟨g + 1, 2, none⟩ = some (.int .i64 (bn : Nat)) ∧ w'.cell? ⟨g, an, none⟩ = some (.int .i64 pa.num) ∧ w'.cell? ⟨g, bn, none⟩ = some (.int .i64 pb.num)) (World.drew _) := ⟨B2, i1, i2, ka, kb⟩
      refine wp_region_noPanic ?_
      refine wp_region_held_drew (S := (fun w' => Blk w' g 86 (RS s) ∧ w'.cell? ⟨g + 1, 1, none⟩ = some (.int .i64 (an : Nat)) ∧ w'.cell? ⟨g + 1, 2, none⟩ = some (.int .i64 (bn : Nat)) ∧ w'.cell? ⟨g, an, none⟩ = some (.int .i64 pa.num) ∧ w'.cell? ⟨g, bn, none⟩ = some (.int .i64 pb.num))) (by kernel_rfl) hS0 (fun hHeld => ?_)
      clear hS0
      refine wpAnyH_take (i := 0) (v := .agg (RS s)) rfl (by kernel_rfl) (by kernel_rfl) (by kernel_rfl) (fun _ _ _ h => h) (Or.inl ⟨by rfl, fun wq hSw => exec_ldS rfl rfl hSw.1 hs⟩) (by assumption) ?_
      (try simp only [List.getElem_toArray, List.getElem_cons_zero, List.getElem_cons_succ, Act.put, List.setIfInBounds_toArray, List.set_cons_zero, List.set_cons_succ])
      refine wpAnyH_take (i := 1) (v := ?_) rfl (by kernel_rfl) (by kernel_rfl) (by kernel_rfl) (fun _ _ _ h => h) (Or.inl ⟨by rfl, ?_⟩) (by assumption) ?_
      rotate_left
      · intro wq hSw; (try dsimp only at hSw); go_simp; (try with_reducible rfl)
      (try simp only [List.getElem_toArray, List.getElem_cons_zero, List.getElem_cons_succ, Act.put, List.setIfInBounds_toArray, List.set_cons_zero, List.set_cons_succ])
      refine wpAnyH_take (i := 2) (v := ?_) rfl (by kernel_rfl) (by kernel_rfl) (by kernel_rfl) (fun _ _ _ h => h) (Or.inl ⟨by rfl, ?_⟩) (by assumption) ?_
      rotate_left
      · intro wq hSw; (try dsimp only at hSw); go_simp; (try with_reducible rfl)
      (try simp only [List.getElem_toArray, List.getElem_cons_zero, List.getElem_cons_succ, Act.put, List.setIfInBounds_toArray, List.set_cons_zero, List.set_cons_succ])
      refine wpAnyH_take (i := 3) (v := ?_) rfl (by kernel_rfl) (by kernel_rfl) (by kernel_rfl) (fun _ _ _ h => h) (Or.inl ⟨by rfl, ?_⟩) (by assumption) ?_
      rotate_left
      · intro wq hSw; (try dsimp only at hSw); go_simp; (try with_reducible rfl)
      (try simp only [List.getElem_toArray, List.getElem_cons_zero, List.getElem_cons_succ, Act.put, List.setIfInBounds_toArray, List.set_cons_zero, List.set_cons_succ])
      refine wpAnyH_take (i := 4) (v := ?_) rfl (by kernel_rfl) (by kernel_rfl) (by kernel_rfl) (fun _ _ _ h => h) (Or.inl ⟨by rfl, ?_⟩) (by assumption) ?_
      rotate_left
      · intro wq hSw; (try dsimp only at hSw); go_simp; (try with_reducible rfl)
      (try simp only [List.getElem_toArray, List.getElem_cons_zero, List.getElem_cons_succ, Act.put, List.setIfInBounds_toArray, List.set_cons_zero, List.set_cons_succ])
      refine wpAnyH_ready (rs := [5]) (by kernel_rfl) (by simp) ?_
      refine AllReadyH.cons (i := 5) (by rfl) ?_ AllReadyH.nil
      intro K' hK
      simp only [List.getElem_toArray, List.getElem_cons_zero, List.getElem_cons_succ]
      refine if_yes (by kernel_rfl) ?_
      go_big_op
      (go_at_call 52; refine (raw_val _ _ ((Srt.num_is pa).trans HRP.out) _).mono ?_; rintro e w1 ⟨rfl, rfl⟩)
      refine hK.out _ _ ?_ (fun hHeld2 => ?_)
      · exact hHeld
      clear hK K' hHeld
      have hHeld := hHeld2
      clear hHeld2
      (try simp only [List.getElem_toArray, List.getElem_cons_zero, List.getElem_cons_succ, Act.put, List.setIfInBounds_toArray, List.set_cons_zero, List.set_cons_succ])
      refine wpAnyH_take (i := 6) (v := ?_) rfl (by kernel_rfl) (by kernel_rfl) (by kernel_rfl) (fun _ _ _ h => h) (Or.inl ⟨by rfl, ?_⟩) (by assumption) ?_
      rotate_left
      · intro wq hSw; (try dsimp only at hSw); go_simp; (try with_reducible rfl)
      (try simp only [List.getElem_toArray, List.getElem_cons_zero, List.getElem_cons_succ, Act.put, List.setIfInBounds_toArray, List.set_cons_zero, List.set_cons_succ])
      refine wpAnyH_take (i := 7) (v := undef) rfl (by kernel_rfl) (by kernel_rfl) (by kernel_rfl) (fun _ _ _ h => h) (Or.inr ⟨by rfl, rfl⟩) (by assumption) ?_
      (try simp only [List.getElem_toArray, List.getElem_cons_zero, List.getElem_cons_succ, Act.put, List.setIfInBounds_toArray, List.set_cons_zero, List.set_cons_succ])
      refine wpAnyH_take (i := 8) (v := undef) rfl (by kernel_rfl) (by kernel_rfl) (by kernel_rfl) (fun _ _ _ h => h) (Or.inr ⟨by rfl, rfl⟩) (by assumption) ?_
      (try simp only [List.getElem_toArray, List.getElem_cons_zero, List.getElem_cons_succ, Act.put, List.setIfInBounds_toArray, List.set_cons_zero, List.set_cons_succ])
      refine wpAnyH_take (i := 9) (v := undef) rfl (by kernel_rfl) (by kernel_rfl) (by kernel_rfl) (fun _ _ _ h => h) (Or.inr ⟨by rfl, rfl⟩) (by assumption) ?_
      (try simp only [List.getElem_toArray, List.getElem_cons_zero, List.getElem_cons_succ, Act.put, List.setIfInBounds_toArray, List.set_cons_zero, List.set_cons_succ])
      refine wpAnyH_take (i := 10) (v := undef) rfl (by kernel_rfl) (by kernel_rfl) (by kernel_rfl) (fun _ _ _ h => h) (Or.inr ⟨by rfl, rfl⟩) (by assumption) ?_
      (try simp only [List.getElem_toArray, List.getElem_cons_zero, List.getElem_cons_succ, Act.put, List.setIfInBounds_toArray, List.set_cons_zero, List.set_cons_succ])
      refine wpAnyH_take (i := 11) (v := undef) rfl (by kernel_rfl) (by kernel_rfl) (by kernel_rfl) (fun _ _ _ h => h) (Or.inr ⟨by rfl, rfl⟩) (by assumption) ?_
      (try simp only [List.getElem_toArray, List.getElem_cons_zero, List.getElem_cons_succ, Act.put, List.setIfInBounds_toArray, List.set_cons_zero, List.set_cons_succ])
      refine wpAnyH_take (i := 12) (v := ?_) rfl (by kernel_rfl) (by kernel_rfl) (by kernel_rfl) (fun _ _ _ h => h) (Or.inl ⟨by rfl, ?_⟩) (by assumption) ?_
      rotate_left
      · intro wq hSw; (try dsimp only at hSw); go_simp; (try with_reducible rfl)
      (try simp only [List.getElem_toArray, List.getElem_cons_zero, List.getElem_cons_succ, Act.put, List.setIfInBounds_toArray, List.set_cons_zero, List.set_cons_succ])
      refine wpAnyH_ready (rs := [13]) (by kernel_rfl) (by simp) ?_
      refine AllReadyH.cons (i := 13) (by rfl) ?_ AllReadyH.nil
      intro K' hK
      refine if_yes (by kernel_rfl) ?_
      refine wp_stS rfl rfl rfl (B4.drew) rfl hs ?_
      refine hK.out _ _ ?_ (fun hHeld2 => ?_)
      · exact ⟨hHeld.1.rowFar (by omega) _, (cell_rowFar (by show g + 1 ≠ g4; omega) _).trans hHeld.2.1, (cell_rowFar (by show g + 1 ≠ g4; omega) _).trans hHeld.2.2.1, (cell_rowFar (by show g ≠ g4; omega) _).trans hHeld.2.2.2.1, (cell_rowFar (by show g ≠ g4; omega) _).trans hHeld.2.2.2.2⟩
      clear hK K' hHeld
      (try simp only [List.getElem_toArray, List.getElem_cons_zero, List.getElem_cons_succ, Act.put, List.setIfInBounds_toArray, List.set_cons_zero, List.set_cons_succ])
      have hHeld := hHeld2
      refine wpAnyH_take (i := 14) (v := ?_) rfl (by kernel_rfl) (by kernel_rfl) (by kernel_rfl) (fun _ _ _ h => h) (Or.inl ⟨by rfl, ?_⟩) (by assumption) ?_
      rotate_left
      · intro wq hSw; (try dsimp only at hSw); go_simp; (try with_reducible rfl)
      (try simp only [List.getElem_toArray, List.getElem_cons_zero, List.getElem_cons_succ, Act.put, List.setIfInBounds_toArray, List.set_cons_zero, List.set_cons_succ])
      refine wpAnyH_done (by kernel_rfl) ?_ _
      refine NoPanic.normal ?_
      go_wp2_with fail
      exact HF.out _ _ HR.out hs _ rfl rfl rfl _ (B4.drew.row _) (keep_row hB.drew (by omega) _)
    · go_upto_region 21 with fail
      have hS0 : (fun w' => Blk w' g 86 (RS s) ∧ w'.cell? ⟨g + 1, 1, none⟩ = some (.int .i64 (an : Nat)) ∧ w'.cell? ⟨g + 1, 2, none⟩ = some (.int .i64 (bn : Nat)) ∧ w'.cell? ⟨g, an, none⟩ = some (.int .i64 pa.num) ∧ w'.cell? ⟨g, bn, none⟩ = some (.int .i64 pb.num)) (World.drew _) := ⟨B2, i1, i2, ka, kb⟩
      refine wp_region_noPanic ?_
      refine wp_region_held_drew (S := (fun w' => Blk w' g 86 (RS s) ∧ w'.cell? ⟨g + 1, 1, none⟩ = some (.int .i64 (an : Nat)) ∧ w'.cell? ⟨g + 1, 2, none⟩ = some (.int .i64 (bn : Nat)) ∧ w'.cell? ⟨g, an, none⟩ = some (.int .i64 pa.num) ∧ w'.cell? ⟨g, bn, none⟩ = some (.int .i64 pb.num))) (by kernel_rfl) hS0 (fun hHeld => ?_)
      clear hS0
      refine wpAnyH_take (i := 0) (v := .agg (RS s)) rfl (by kernel_rfl) (by kernel_rfl) (by kernel_rfl) (fun _ _ _ h => h) (Or.inl ⟨by rfl, fun wq hSw => exec_ldS rfl rfl hSw.1 hs⟩) (by assumption) ?_
      (try simp only [List.getElem_toArray, List.getElem_cons_zero, List.getElem_cons_succ, Act.put, List.setIfInBounds_toArray, List.set_cons_zero, List.set_cons_succ])
      refine wpAnyH_take (i := 1) (v := ?_) rfl (by kernel_rfl) (by kernel_rfl) (by kernel_rfl) (fun _ _ _ h => h) (Or.inl ⟨by rfl, ?_⟩) (by assumption) ?_
      rotate_left
      · intro wq hSw; (try dsimp only at hSw); go_simp; (try with_reducible rfl)
      (try simp only [List.getElem_toArray, List.getElem_cons_zero, List.getElem_cons_succ, Act.put, List.setIfInBounds_toArray, List.set_cons_zero, List.set_cons_succ])
      refine wpAnyH_take (i := 2) (v := ?_) rfl (by kernel_rfl) (by kernel_rfl) (by kernel_rfl) (fun _ _ _ h => h) (Or.inl ⟨by rfl, ?_⟩) (by assumption) ?_
      rotate_left
      · intro wq hSw; (try dsimp only at hSw); go_simp; (try with_reducible rfl)
      (try simp only [List.getElem_toArray, List.getElem_cons_zero, List.getElem_cons_succ, Act.put, List.setIfInBounds_toArray, List.set_cons_zero, List.set_cons_succ])
      refine wpAnyH_take (i := 3) (v := ?_) rfl (by kernel_rfl) (by kernel_rfl) (by kernel_rfl) (fun _ _ _ h => h) (Or.inl ⟨by rfl, ?_⟩) (by assumption) ?_
      rotate_left
      · intro wq hSw; (try dsimp only at hSw); go_simp; (try with_reducible rfl)
      (try simp only [List.getElem_toArray, List.getElem_cons_zero, List.getElem_cons_succ, Act.put, List.setIfInBounds_toArray, List.set_cons_zero, List.set_cons_succ])
      refine wpAnyH_take (i := 4) (v := ?_) rfl (by kernel_rfl) (by kernel_rfl) (by kernel_rfl) (fun _ _ _ h => h) (Or.inl ⟨by rfl, ?_⟩) (by assumption) ?_
      rotate_left
      · intro wq hSw; (try dsimp only at hSw); go_simp; (try with_reducible rfl)
      (try simp only [List.getElem_toArray, List.getElem_cons_zero, List.getElem_cons_succ, Act.put, List.setIfInBounds_toArray, List.set_cons_zero, List.set_cons_succ])
      refine wpAnyH_ready (rs := [5]) (by kernel_rfl) (by simp) ?_
      refine AllReadyH.cons (i := 5) (by rfl) ?_ AllReadyH.nil
      intro K' hK
      simp only [List.getElem_toArray, List.getElem_cons_zero, List.getElem_cons_succ]
      refine if_yes (by kernel_rfl) ?_
      go_big_op
      (go_at_call 52; refine (raw_val _ _ ((Srt.num_is pa).trans HRP.out) _).mono ?_; rintro e w1 ⟨rfl, rfl⟩)
      refine hK.out _ _ ?_ (fun hHeld2 => ?_)
      · exact hHeld
      clear hK K' hHeld
      have hHeld := hHeld2
      clear hHeld2
      (try simp only [List.getElem_toArray, List.getElem_cons_zero, List.getElem_cons_succ, Act.put, List.setIfInBounds_toArray, List.set_cons_zero, List.set_cons_succ])
      refine wpAnyH_take (i := 6) (v := ?_) rfl (by kernel_rfl) (by kernel_rfl) (by kernel_rfl) (fun _ _ _ h => h) (Or.inl ⟨by rfl, ?_⟩) (by assumption) ?_
      rotate_left
      · intro wq hSw; (try dsimp only at hSw); go_simp; (try with_reducible rfl)
      (try simp only [List.getElem_toArray, List.getElem_cons_zero, List.getElem_cons_succ, Act.put, List.setIfInBounds_toArray, List.set_cons_zero, List.set_cons_succ])
      refine wpAnyH_take (i := 7) (v := ?_) rfl (by kernel_rfl) (by kernel_rfl) (by kernel_rfl) (fun _ _ _ h => h) (Or.inl ⟨by rfl, ?_⟩) (by assumption) ?_
      rotate_left
      · intro wq hSw; (try dsimp only at hSw); go_simp; (try with_reducible rfl)
      (try simp only [List.getElem_toArray, List.getElem_cons_zero, List.getElem_cons_succ, Act.put, List.setIfInBounds_toArray, List.set_cons_zero, List.set_cons_succ])
      refine wpAnyH_take (i := 8) (v := ?_) rfl (by kernel_rfl) (by kernel_rfl) (by kernel_rfl) (fun _ _ _ h => h) (Or.inl ⟨by rfl, ?_⟩) (by assumption) ?_
      rotate_left
      · intro wq hSw; (try dsimp only at hSw); go_simp; (try with_reducible rfl)
      (try simp only [List.getElem_toArray, List.getElem_cons_zero, List.getElem_cons_succ, Act.put, List.setIfInBounds_toArray, List.set_cons_zero, List.set_cons_succ])
      refine wpAnyH_take (i := 9) (v := ?_) rfl (by kernel_rfl) (by kernel_rfl) (by kernel_rfl) (fun _ _ _ h => h) (Or.inl ⟨by rfl, ?_⟩) (by assumption) ?_
      rotate_left
      · intro wq hSw; (try dsimp only at hSw); go_simp; (try with_reducible rfl)
      (try simp only [List.getElem_toArray, List.getElem_cons_zero, List.getElem_cons_succ, Act.put, List.setIfInBounds_toArray, List.set_cons_zero, List.set_cons_succ])
      refine wpAnyH_take (i := 10) (v := ?_) rfl (by kernel_rfl) (by kernel_rfl) (by kernel_rfl) (fun _ _ _ h => h) (Or.inl ⟨by rfl, ?_⟩) (by assumption) ?_
      rotate_left
      · intro wq hSw; (try dsimp only at hSw); go_simp; (try with_reducible rfl)
      (try simp only [List.getElem_toArray, List.getElem_cons_zero, List.getElem_cons_succ, Act.put, List.setIfInBounds_toArray, List.set_cons_zero, List.set_cons_succ])
      refine wpAnyH_take (i := 11) (v := ?_) rfl (by kernel_rfl) (by kernel_rfl) (by kernel_rfl) (fun _ _ _ h => h) (Or.inl ⟨by rfl, ?_⟩) (by assumption) ?_
      rotate_left
      · intro wq hSw; (try dsimp only at hSw); go_simp; (try with_reducible rfl)
      (try simp only [List.getElem_toArray, List.getElem_cons_zero, List.getElem_cons_succ, Act.put, List.setIfInBounds_toArray, List.set_cons_zero, List.set_cons_succ])
      refine wpAnyH_take (i := 12) (v := ?_) rfl (by kernel_rfl) (by kernel_rfl) (by kernel_rfl) (fun _ _ _ h => h) (Or.inl ⟨by rfl, ?_⟩) (by assumption) ?_
      rotate_left
      · intro wq hSw; (try dsimp only at hSw); go_simp; (try with_reducible rfl)
      (try simp only [List.getElem_toArray, List.getElem_cons_zero, List.getElem_cons_succ, Act.put, List.setIfInBounds_toArray, List.set_cons_zero, List.set_cons_succ])
      refine wpAnyH_ready (rs := [13]) (by kernel_rfl) (by simp) ?_
      refine AllReadyH.cons (i := 13) (by rfl) ?_ AllReadyH.nil
      intro K' hK
      refine if_yes (by kernel_rfl) ?_
      refine wp_stS rfl rfl rfl (B4.drew) rfl hs ?_
      refine hK.out _ _ ?_ (fun hHeld2 => ?_)
      · exact ⟨hHeld.1.rowFar (by omega) _, (cell_rowFar (by show g + 1 ≠ g4; omega) _).trans hHeld.2.1, (cell_rowFar (by show g + 1 ≠ g4; omega) _).trans hHeld.2.2.1, (cell_rowFar (by show g ≠ g4; omega) _).trans hHeld.2.2.2.1, (cell_rowFar (by show g ≠ g4; omega) _).trans hHeld.2.2.2.2⟩
      clear hK K' hHeld
      (try simp only [List.getElem_toArray, List.getElem_cons_zero, List.getElem_cons_succ, Act.put, List.setIfInBounds_toArray, List.set_cons_zero, List.set_cons_succ])
      have hHeld := hHeld2
      refine wpAnyH_take (i := 14) (v := ?_) rfl (by kernel_rfl) (by kernel_rfl) (by kernel_rfl) (fun _ _ _ h => h) (Or.inl ⟨by rfl, ?_⟩) (by assumption) ?_
      rotate_left
      · intro wq hSw; (try dsimp only at hSw); go_simp; (try with_reducible rfl)
      (try simp only [List.getElem_toArray, List.getElem_cons_zero, List.getElem_cons_succ, Act.put, List.setIfInBounds_toArray, List.set_cons_zero, List.set_cons_succ])
      refine wpAnyH_done (by kernel_rfl) ?_ _
      refine NoPanic.normal ?_
      go_wp2_with fail
      exact HF.out _ _ HR.out hs _ rfl rfl rfl _ (B4.drew.row _) (keep_row hB.drew (by omega) _)
  have t12 : (op == 12) = false := beq_false_of_ne h12
  by_cases h13 : op = 13
  · have hr : afterR s op an bn cn i pa pb pc = (calledS s an bn i, wordsS s cn (min (cn + (argsN bn).toNat) 8)) := by unfold afterR; rw [if_neg h9, if_neg h10, if_neg h12, if_neg h14, if_pos h13]
    obtain ⟨ar, har, har3⟩ : ∃ ar : Nat, argsN bn = ar ∧ ar ≤ 3 := by
      have h0 := argsN_range bn
      exact ⟨(argsN bn).toNat, by omega, by omega⟩
    have hrl : (calledS s an bn i).length = 8 := by unfold calledS; simp [hs]
    rw [har, Int.toNat_natCast] at hr
    subst h13
    have HR := Lib.hid hr
    have HAR := Lib.hid har
    clear hr har t9 t10 t15 t17 t14 t2 t3 t4 t5 t6 t7 t8 t11 t12
    go_upto_region 23 with fail
    clear i0 i1 i2 i3 i4 ka kc
    have hS0 : (fun w' => Below g4 w0 w' ∧ ∃ cs, Blk w' g4 86 cs ∧ cs.size = 8) (World.drew _) := ⟨(Below.refl _ _).drew, _, B4, rfl⟩
    refine wp_region_noPanic ?_
    refine wp_region_held_drew (S := (fun w' => Below g4 w0 w' ∧ ∃ cs, Blk w' g4 86 cs ∧ cs.size = 8)) (by kernel_rfl) hS0 (fun hHeld => ?_)
    clear hS0 B4
    refine wpAnyH_take (i := 0) (v := .agg (RS s)) rfl (by kernel_rfl) (by kernel_rfl) (by kernel_rfl) (fun _ _ _ h => h) (Or.inl ⟨by rfl, fun wq hSw => exec_ldS rfl rfl (B2.belowB hSw.1 (by omega)) hs⟩) (by assumption) ?_
    (try simp only [List.getElem_toArray, List.getElem_cons_zero, List.getElem_cons_succ, Act.put, List.setIfInBounds_toArray, List.set_cons_zero, List.set_cons_succ])
    refine wpAnyH_take (i := 1) (v := ?_) rfl (by kernel_rfl) (by kernel_rfl) (by kernel_rfl) (fun _ _ _ h => h) (Or.inl ⟨by rfl, ?_⟩) (by assumption) ?_
    rotate_left
    · intro wq hSw; (try dsimp only at hSw); have J := B3.belowB hSw.1 hgg; clear hSw; have j0 := J.cell 0 _ rfl; have j1 := J.cell 1 _ rfl; have j2 := J.cell 2 _ rfl; have j3 := J.cell 3 _ rfl; have j4 := J.cell 4 _ rfl; clear J; go_simp; (try with_reducible rfl)
    (try simp only [List.getElem_toArray, List.getElem_cons_zero, List.getElem_cons_succ, Act.put, List.setIfInBounds_toArray, List.set_cons_zero, List.set_cons_succ])
    refine wpAnyH_take (i := 2) (v := ?_) rfl (by kernel_rfl) (by kernel_rfl) (by kernel_rfl) (fun _ _ _ h => h) (Or.inl ⟨by rfl, ?_⟩) (by assumption) ?_
    rotate_left
    · intro wq hSw; (try dsimp only at hSw); have J := B3.belowB hSw.1 hgg; clear hSw; clear J; go_simp; (try with_reducible rfl)
    (try simp only [List.getElem_toArray, List.getElem_cons_zero, List.getElem_cons_succ, Act.put, List.setIfInBounds_toArray, List.set_cons_zero, List.set_cons_succ])
    refine wpAnyH_take (i := 4) (v := .agg (RS s)) rfl (by kernel_rfl) (by kernel_rfl) (by kernel_rfl) (fun _ _ _ h => h) (Or.inl ⟨by rfl, fun wq hSw => exec_ldS rfl rfl (B2.belowB hSw.1 (by omega)) hs⟩) (by assumption) ?_
    (try simp only [List.getElem_toArray, List.getElem_cons_zero, List.getElem_cons_succ, Act.put, List.setIfInBounds_toArray, List.set_cons_zero, List.set_cons_succ])
    refine wpAnyH_take (i := 5) (v := ?_) rfl (by kernel_rfl) (by kernel_rfl) (by kernel_rfl) (fun _ _ _ h => h) (Or.inl ⟨by rfl, ?_⟩) (by assumption) ?_
    rotate_left
    · intro wq hSw; (try dsimp only at hSw); have J := B3.belowB hSw.1 hgg; clear hSw; clear J; go_simp; (try with_reducible rfl)
    (try simp only [List.getElem_toArray, List.getElem_cons_zero, List.getElem_cons_succ, Act.put, List.setIfInBounds_toArray, List.set_cons_zero, List.set_cons_succ])
    refine wpAnyH_take (i := 6) (v := ?_) rfl (by kernel_rfl) (by kernel_rfl) (by kernel_rfl) (fun _ _ _ h => h) (Or.inl ⟨by rfl, ?_⟩) (by assumption) ?_
    rotate_left
    · intro wq hSw; (try dsimp only at hSw); have J := B3.belowB hSw.1 hgg; clear hSw; have j3 := J.cell 3 _ rfl; clear J; go_simp; (try with_reducible rfl)
    (try simp only [List.getElem_toArray, List.getElem_cons_zero, List.getElem_cons_succ, Act.put, List.setIfInBounds_toArray, List.set_cons_zero, List.set_cons_succ])
    refine wpAnyH_take (i := 7) (v := ?_) rfl (by kernel_rfl) (by kernel_rfl) (by kernel_rfl) (fun _ _ _ h => h) (Or.inl ⟨by rfl, ?_⟩) (by assumption) ?_
    rotate_left
    · intro wq hSw; (try dsimp only at hSw); have J := B3.belowB hSw.1 hgg; clear hSw; clear J; go_simp; (try with_reducible rfl)
    (try simp only [List.getElem_toArray, List.getElem_cons_zero, List.getElem_cons_succ, Act.put, List.setIfInBounds_toArray, List.set_cons_zero, List.set_cons_succ])
    refine wpAnyH_take (i := 8) (v := ?_) rfl (by kernel_rfl) (by kernel_rfl) (by kernel_rfl) (fun _ _ _ h => h) (Or.inl ⟨by rfl, ?_⟩) (by assumption) ?_
    rotate_left
    · intro wq hSw; (try dsimp only at hSw); have J := B3.belowB hSw.1 hgg; clear hSw; have j2 := J.cell 2 _ rfl; clear J; go_simp; (try with_reducible rfl)
    (try simp only [List.getElem_toArray, List.getElem_cons_zero, List.getElem_cons_succ, Act.put, List.setIfInBounds_toArray, List.set_cons_zero, List.set_cons_succ])
    refine wpAnyH_ready (rs := [3]) (by kernel_rfl) (by simp) ?_
    refine AllReadyH.cons (i := 3) (by rfl) ?_ (AllReadyH.nil)
    · skip
      intro K' hK
      simp only [List.getElem_toArray, List.getElem_cons_zero, List.getElem_cons_succ]
      refine if_yes (by kernel_rfl) ?_
      go_big_op
      (go_at_call 53; refine (called_any s hs 13 bn cn an ha8 k i hi _).mono ?_; rintro e w1 ⟨rfl, hb1⟩)
      refine hK.out _ _ ?_ (fun hHeld2 => ?_)
      · (obtain ⟨hSb, cs, hcs, hz⟩ := hHeld; exact ⟨hSb.trans (hb1.mono (by have := hcs.lt; omega)), cs, hcs.below hb1, hz⟩)
      clear hK K' hHeld
      have hHeld := hHeld2
      clear hHeld2
      (try simp only [List.getElem_toArray, List.getElem_cons_zero, List.getElem_cons_succ, Act.put, List.setIfInBounds_toArray, List.set_cons_zero, List.set_cons_succ])
      clear hb1
      refine wpAnyH_ready (rs := [9]) (by kernel_rfl) (by simp) ?_
      refine AllReadyH.cons (i := 9) (by rfl) ?_ (AllReadyH.nil)
      · skip
        intro K' hK
        simp only [List.getElem_toArray, List.getElem_cons_zero, List.getElem_cons_succ]
        refine if_yes (by kernel_rfl) ?_
        go_big_op
        (go_at_call 11; refine (rargs_valC _ _ _ HAR.out).mono ?_; rintro e w1 ⟨rfl, rfl⟩)
        refine hK.out _ _ ?_ (fun hHeld2 => ?_)
        · exact hHeld
        clear hK K' hHeld
        have hHeld := hHeld2
        clear hHeld2
        (try simp only [List.getElem_toArray, List.getElem_cons_zero, List.getElem_cons_succ, Act.put, List.setIfInBounds_toArray, List.set_cons_zero, List.set_cons_succ])
        refine wpAnyH_ready (rs := [10]) (by kernel_rfl) (by simp) ?_
        refine AllReadyH.cons (i := 10) (by rfl) ?_ (AllReadyH.nil)
        · skip
          intro K' hK
          simp only [List.getElem_toArray, List.getElem_cons_zero, List.getElem_cons_succ]
          refine if_yes (by kernel_rfl) ?_
          go_big_op
          (go_at_call 54; refine (rwords_any s hs cn ar hc8 (by omega) _).mono ?_; rintro e w1 ⟨rfl, hb1⟩)
          refine hK.out _ _ ?_ (fun hHeld2 => ?_)
          · (obtain ⟨hSb, cs, hcs, hz⟩ := hHeld; exact ⟨hSb.trans (hb1.mono (by have := hcs.lt; omega)), cs, hcs.below hb1, hz⟩)
          clear hK K' hHeld
          have hHeld := hHeld2
          clear hHeld2
          (try simp only [List.getElem_toArray, List.getElem_cons_zero, List.getElem_cons_succ, Act.put, List.setIfInBounds_toArray, List.set_cons_zero, List.set_cons_succ])
          clear hb1
          refine wpAnyH_ready (rs := [11]) (by kernel_rfl) (by simp) ?_
          refine AllReadyH.cons (i := 11) (by rfl) ?_ AllReadyH.nil
          intro K' hK
          refine if_yes (by kernel_rfl) ?_
          obtain ⟨hSb, cs, hcs, hz⟩ := hHeld
          refine wp_stS rfl rfl rfl hcs hz hrl ?_
          have hHeld : Below g4 w0 (World.setRow w1 g4 (RS (calledS s an bn i))) ∧ ∃ ds, Blk (World.setRow w1 g4 (RS (calledS s an bn i))) g4 86 ds ∧ ds.size = 8 := ⟨keep_row hSb (Nat.le_refl _) (RS (calledS s an bn i)), _, hcs.row (RS (calledS s an bn i)), RS_size hrl⟩
          refine hK.out _ _ hHeld (fun _ => ?_)
          clear hK K'
          (try simp only [List.getElem_toArray, List.getElem_cons_zero, List.getElem_cons_succ, Act.put, List.setIfInBounds_toArray, List.set_cons_zero, List.set_cons_succ])
          refine wpAnyH_take (i := 12) (v := ?_) rfl (by kernel_rfl) (by kernel_rfl) (by kernel_rfl) (fun _ _ _ h => h) (Or.inl ⟨by rfl, ?_⟩) (by assumption) ?_
          rotate_left
          · intro wq hSw; (try dsimp only at hSw); have J := B3.belowB hSw.1 hgg; clear hSw; clear J; go_simp; (try with_reducible rfl)
          (try simp only [List.getElem_toArray, List.getElem_cons_zero, List.getElem_cons_succ, Act.put, List.setIfInBounds_toArray, List.set_cons_zero, List.set_cons_succ])
          refine wpAnyH_done (by kernel_rfl) ?_ _
          refine NoPanic.normal ?_
          go_wp2_with fail
          exact HF.out _ _ HR.out hrl _ rfl rfl rfl _ (hcs.row _) (hB.trans (hHeld.1.mono (by omega)))
  · have hr : afterR s op an bn cn i pa pb pc = (s.set an .wd, true) := by unfold afterR refS; rw [if_neg h9, if_neg h10, if_neg h12, if_neg h14, if_neg h13, if_neg h2, if_neg h3, if_neg h11]
    have t13 : (op == 13) = false := beq_false_of_ne h13
    have HR := Lib.hid hr
    clear hr
    go_upto_region 26 with fail
    have B2' := B2
    have B4' := B4
    have hB' := hB
    have j1 := i1
    have ea := RS_far B2' hpa
    have ef := B2'.free
    clear B2 B3 B4 hB i0 i1 i2 i3 i4 ka kc
    go_upto_region 27 with fail
    have B2s := RS_set s an .wd ▸ B2'.set an (.int .i64 (Srt.num .wd))
    have B4s := B4'.far (p := ⟨g, an, none⟩) (by show g4 ≠ g; omega) (.int .i64 (Srt.num .wd))
    have hBs := hB'.setCell (p := ⟨g, an, none⟩) (Nat.le_refl _) (.int .i64 (Srt.num .wd))
    have hsl : (s.set an .wd).length = 8 := by rw [List.length_set]; exact hs
    clear B2' B4' hB' j1 ea ef
    go_wp2_with (first | (refine ldS rfl rfl rfl B2s hsl ?_) | (refine stS rfl rfl rfl rfl B4s rfl hsl ?_))
    exact HF.out _ _ HR.out hsl _ rfl rfl rfl _ (B4s.row _) (keep_row hBs (by omega) _)
end Go.Proofs.Ytpmdgmgcbminaaa

/- The program's after. Printed by mk_safe10.py. -/
import Derived.Test.YtpmdgmgcbminaaaSafe9
namespace Go.Proofs.Ytpmdgmgcbminaaa
open Go.ChangeShapes Go.WideShapes Go.RowKit Words

theorem exec_ldP {a : Act} {w : World} {t : TypeId} {g : Nat} {x : Operand} {l : List Srt} {op : Oper} (ho : op.op = .load 78 x) (hx : a.eval x = .pointer (some ⟨g, 0, none⟩)) (hb : Blk w g t (PS l)) (hl : l.length = 8) :
    (execOp a.eval op).run Try.prog w = .ok (.value (.agg (PS l))) w := by
  unfold execOp
  simp only [ho, hx, Sem.run_bind, ld_blk Try.underlying78 (by rw [PS_size hl]; exact infoPS) hb, Result.andThen_ok, Sem.run_pure]
theorem wp_stP {a : Act} {w : World} {K : Act → World → Prop} {Q : Exit → Act → World → Prop} {t : TypeId} {g : Nat} {x y : Operand} {l : List Srt} {old : Array Value} {op : Oper} (ho : op.op = .store 78 x y)
    (hx : a.eval x = .pointer (some ⟨g, 0, none⟩)) (hy : a.eval y = .agg (PS l)) (hb : Blk w g t old) (hz : old.size = 16) (hl : l.length = 8)
    (h : K (a.put op.dst undef) (w.setRow g (PS l))) : op.wp Try.prog a w K Q := by
  unfold Oper.wp execOp
  simp only [ho, hx, hy, Sem.run_bind, st_blk (P := Try.prog) (T := 78) (by rw [PS_size hl]; exact infoPS) (by rw [PS_size hl, hz]) (PS_one l) hb, Result.andThen_ok, Sem.run_pure]
  exact h
theorem if_yes {c : Bool} {A B : Prop} (h : c = true) (a : A) : if c = true then A else B := by rw [if_pos h]; exact a
theorem result_val {s : List Srt} {op a b c : Int} {k : BitVec 64} (hb0 : 0 ≤ b) (hc0 : 0 ≤ c) (hc1 : c < 8) {p q : Srt} (hp : s[(b.tmod 8).toNat]? = some p) (hq : s[c.toNat]? = some q) {r : Srt} {v : Bool} (h : resS op p q = (r, v)) (w : World) :
    Calls Try.prog 50 #[.agg (PS s), .agg #[.int .i64 op, .int .i64 a, .int .i64 b, .int .i64 c, .int .u64 (U k)]] w fun e w' => e = .returned (.tuple #[.agg #[.int .i64 r.kind, .int .i64 r.at_], .bool v]) ∧ Below w.heap.size w w' := by
  have := result_any s op a b c k hb0 hc0 hc1 p q hp hq w
  rw [h] at this
  exact this
theorem quiet_ldP {C : World → Prop} {o : Oper} {K : Act → Prop} {a : Act} {x : Operand} {g : Nat} {t : TypeId} {l : List Srt} (ho : o.op = .load 78 x) (hx : a.eval x = .pointer (some ⟨g, 0, none⟩)) (hb : ∀ w, C w → Blk w g t (PS l)) (hl : l.length = 8) (h : K (a.put o.dst (.agg (PS l)))) :
    o.quiet Try.prog a C K := ⟨_, fun w hw => by unfold Oper.quietAt; rw [exec_ldP ho hx (hb w hw) hl]; exact ⟨rfl, rfl⟩, h⟩
theorem words_val {s : List Srt} (hs : s.length = 8) {c ar : Nat} (hc : c < 8) (ha : ar ≤ 3) (w : World) :
    Calls Try.prog 48 #[.agg (PS s), .int .i64 c, .int .i64 (if 8 < (c : Int) + (ar : Int) then 8 else (c : Int) + (ar : Int))] w fun e w' => e = .returned (.bool (wordsS s c (min (c + ar) 8))) ∧ Below w.heap.size w w' := by
  have h : (if 8 < (c : Int) + (ar : Int) then 8 else (c : Int) + (ar : Int)) = ((min (c + ar) 8 : Nat) : Int) := by split <;> omega
  rw [h]
  exact words_any s hs c (min (c + ar) 8) (by omega) hc (by omega) w
theorem cell_rowFar {w : World} {a : Addr} {g : Nat} (hne : a.block ≠ g) (cs : Array Value) : (w.setRow g cs).cell? a = w.cell? a := cell_setRow_other w g cs a hne

/-- the sorts after an instruction, and whether its rule is obeyed: the program's -/
def afterP (s : List Srt) (op : Int) (a : Nat) (b : Int) (c : Nat) (i : Nat) (pa pb pc : Srt) : List Srt × Bool :=
  if op = 9 then (s, true)
  else if op = 10 ∨ op = 15 ∨ op = 17 then (s, pa.kind == 0)
  else if op = 12 then (s, (pa.kind == 2) && (pb.kind == 0))
  else if op = 14 then (s.set a .wd, wordsS s c 8)
  else if op = 13 then (calledS s a b i, wordsS s c (min (c + (argsN b).toNat) 8))
  else (s.set a (resS op pb pc).1, (resS op pb pc).2)

set_option linter.unusedSimpArgs false in
set_option maxRecDepth 100000 in
set_option maxHeartbeats 8000000 in
theorem after_any (s : List Srt) (hs : s.length = 8) (op : Int) (an bn cn bq : Nat) (ha8 : an < 8) (hb8 : bn ≤ 255) (hc8 : cn < 8) (hbq : bn % 8 = bq) (k : BitVec 64) (i : Nat) (pa pb pc : Srt) (hpa : s[an]? = some pa) (hpb : s[bq]? = some pb) (hpc : s[cn]? = some pc) (w : World) :
    Calls Try.prog 35 #[.agg (PS s), .agg #[.int .i64 op, .int .i64 (an : Nat), .int .i64 (bn : Nat), .int .i64 (cn : Nat), .int .u64 (U k)], .int .i64 i] w fun e w' => e = .returned (.tuple #[.agg (PS (afterP s op an bn cn i pa pb pc).1), .bool (afterP s op an bn cn i pa pb pc).2]) ∧ Below w.heap.size w w' := by
  have hB : Below w.heap.size w (((w.alloc (.cells (PS s) 78)).alloc (.cells #[.int .i64 op, .int .i64 (an : Nat), .int .i64 (bn : Nat), .int .i64 (cn : Nat), .int .u64 (U k)] 60)).alloc (.cells #[.int .i64 0, .int .i64 0, .int .i64 0, .int .i64 0, .int .i64 0, .int .i64 0, .int .i64 0, .int .i64 0, .int .i64 0, .int .i64 0, .int .i64 0, .int .i64 0, .int .i64 0, .int .i64 0, .int .i64 0, .int .i64 0] 78)) := keep_alloc (keep_alloc (keep_alloc (Below.refl _ _) _) _) _
  have B2 := ((Blk.new w (PS s) 78).alloc (.cells #[.int .i64 op, .int .i64 (an : Nat), .int .i64 (bn : Nat), .int .i64 (cn : Nat), .int .u64 (U k)] 60)).alloc (.cells #[.int .i64 0, .int .i64 0, .int .i64 0, .int .i64 0, .int .i64 0, .int .i64 0, .int .i64 0, .int .i64 0, .int .i64 0, .int .i64 0, .int .i64 0, .int .i64 0, .int .i64 0, .int .i64 0, .int .i64 0, .int .i64 0] 78)
  have B3 := (Blk.newAt (w.alloc (.cells (PS s) 78)) #[.int .i64 op, .int .i64 (an : Nat), .int .i64 (bn : Nat), .int .i64 (cn : Nat), .int .u64 (U k)] 60 (w.heap.size + 1) (by simp)).alloc (.cells #[.int .i64 0, .int .i64 0, .int .i64 0, .int .i64 0, .int .i64 0, .int .i64 0, .int .i64 0, .int .i64 0, .int .i64 0, .int .i64 0, .int .i64 0, .int .i64 0, .int .i64 0, .int .i64 0, .int .i64 0, .int .i64 0] 78)
  have B4 := Blk.newAt ((w.alloc (.cells (PS s) 78)).alloc (.cells #[.int .i64 op, .int .i64 (an : Nat), .int .i64 (bn : Nat), .int .i64 (cn : Nat), .int .u64 (U k)] 60)) #[.int .i64 0, .int .i64 0, .int .i64 0, .int .i64 0, .int .i64 0, .int .i64 0, .int .i64 0, .int .i64 0, .int .i64 0, .int .i64 0, .int .i64 0, .int .i64 0, .int .i64 0, .int .i64 0, .int .i64 0, .int .i64 0] 78 (w.heap.size + 1 + 1) (by simp)
  have htm : ((bn : Int)).tmod 8 = (bq : Int) := by rw [← hbq]; exact (Int.ofNat_tmod bn 8).symm
  have hbw : IntKind.i64.wrap (bq : Int) = (bq : Int) := IntWalk.i64_in _ (by omega)
  have hq8 : bq < 8 := by omega
  have a0 : (0 : Int) ≤ (an : Int) := by omega
  have a1 : (an : Int) < 8 := by omega
  have b0 : (0 : Int) ≤ (bq : Int) := by omega
  have b1 : (bq : Int) < 8 := by omega
  go_enter Try.func35, Try.ntmps35
  go_upto_region 1 with fail
  obtain ⟨w0, hw0⟩ : ∃ w0, ((w.alloc (.cells (PS s) 78)).alloc (.cells #[.int .i64 op, .int .i64 (an : Nat), .int .i64 (bn : Nat), .int .i64 (cn : Nat), .int .u64 (U k)] 60)).alloc (.cells #[.int .i64 0, .int .i64 0, .int .i64 0, .int .i64 0, .int .i64 0, .int .i64 0, .int .i64 0, .int .i64 0, .int .i64 0, .int .i64 0, .int .i64 0, .int .i64 0, .int .i64 0, .int .i64 0, .int .i64 0, .int .i64 0] 78) = w0 := ⟨_, rfl⟩
  rw [hw0] at hB B2 B3 B4 ⊢
  clear hw0
  obtain ⟨g, hg⟩ : ∃ g, w.heap.size = g := ⟨_, rfl⟩
  rw [hg] at hB B2 B3 B4 ⊢
  have HA := Lib.hid hg
  clear hg
  obtain ⟨g4, hg4⟩ : ∃ g4, g + 1 + 1 = g4 := ⟨_, rfl⟩
  have hgg : g + 1 < g4 := by omega
  rw [hg4] at B4 ⊢
  clear hg4
  have i0 := B3.cell 0 _ rfl
  have i1 := B3.cell 1 _ rfl
  have i2 := B3.cell 2 _ rfl
  have i3 := B3.cell 3 _ rfl
  have i4 := B3.cell 4 _ rfl
  obtain ⟨ka, ka1⟩ := srt_far B2 hpa
  obtain ⟨kb, kb1⟩ := srt_far B2 hpb
  have hfin : ∀ (r : List Srt) (v : Bool), afterP s op an bn cn i pa pb pc = (r, v) → r.length = 8 → ∀ a', a'.defers = [] → a'.tmps[6]?.getD undef = .pointer (some ⟨g4, 0, none⟩) → a'.tmps[7]?.getD undef = .bool v → ∀ wz, Blk wz g4 78 (PS r) → Below g w wz →
      bodyPost Try.prog Try.f35 (fun e w' => e = .returned (.tuple #[.agg (PS (afterP s op an bn cn i pa pb pc).1), .bool (afterP s op an bn cn i pa pb pc).2]) ∧ Below w.heap.size w w') .ret a' wz := by
    intro r v hr hrl a' hdef h4 h5 wz G hbz
    rw [hr]
    refine bodyPost_ret (v := .tuple #[.agg (PS r), .bool v]) ?_ hdef ⟨rfl, by rw [HA.out]; exact hbz⟩
    have hlv := lvP G hrl
    simp [results, Try.results35, h4, h5, asAddr, hlv]
  have HF := Lib.hid hfin
  clear hfin
  by_cases h9 : op = 9
  · subst h9
    have hr : afterP s 9 an bn cn i pa pb pc = (s, true) := by unfold afterP; rw [if_pos rfl]
    have HR := Lib.hid hr
    clear hr
    go_wp2_with (first | (refine ldP rfl rfl rfl B2 hs ?_) | (refine stP rfl rfl rfl rfl B4 rfl hs ?_))
    exact HF.out _ _ HR.out hs _ rfl rfl rfl _ (B4.row _) (keep_row hB (by omega) _)
  have t9 : (op == 9) = false := beq_false_of_ne h9
  by_cases h10 : op = 10 ∨ op = 15 ∨ op = 17
  · have hr : afterP s op an bn cn i pa pb pc = (s, pa.kind == 0) := by unfold afterP; rw [if_neg h9, if_pos h10]
    have HR := Lib.hid hr
    clear hr
    rcases h10 with rfl | rfl | rfl
    all_goals
      go_upto_region 7 with fail
      have hS0 : (fun w' => Blk w' g 78 (PS s) ∧ w'.cell? ⟨g + 1, 1, none⟩ = some (.int .i64 (an : Nat)) ∧ w'.cell? ⟨g + 1, 2, none⟩ = some (.int .i64 (bn : Nat)) ∧ w'.cell? ⟨g, an * 2, none⟩ = some (.int .i64 pa.kind) ∧ w'.cell? ⟨g, bq * 2, none⟩ = some (.int .i64 pb.kind)) (World.drew _) := ⟨B2, i1, i2, ka, kb⟩
      refine wp_region_noPanic ?_
      refine wp_region_held_drew (S := (fun w' => Blk w' g 78 (PS s) ∧ w'.cell? ⟨g + 1, 1, none⟩ = some (.int .i64 (an : Nat)) ∧ w'.cell? ⟨g + 1, 2, none⟩ = some (.int .i64 (bn : Nat)) ∧ w'.cell? ⟨g, an * 2, none⟩ = some (.int .i64 pa.kind) ∧ w'.cell? ⟨g, bq * 2, none⟩ = some (.int .i64 pb.kind))) (by kernel_rfl) hS0 (fun hHeld => ?_)
      clear hS0
      refine wpAnyH_take (i := 0) (v := .agg (PS s)) rfl (by kernel_rfl) (by kernel_rfl) (by kernel_rfl) (fun _ _ _ h => h) (Or.inl ⟨by rfl, fun wq hSw => exec_ldP rfl rfl hSw.1 hs⟩) (by assumption) ?_
      (try simp only [List.getElem_toArray, List.getElem_cons_zero, List.getElem_cons_succ, Act.put, List.setIfInBounds_toArray, List.set_cons_zero, List.set_cons_succ])
      refine wpAnyH_take (i := 1) (v := ?_) rfl (by kernel_rfl) (by kernel_rfl) (by kernel_rfl) (fun _ _ _ h => h) (Or.inl ⟨by rfl, ?_⟩) (by assumption) ?_
      rotate_left
      · intro wq hSw; (try dsimp only at hSw); go_simp; (try with_reducible rfl)
      (try simp only [List.getElem_toArray, List.getElem_cons_zero, List.getElem_cons_succ, Act.put, List.setIfInBounds_toArray, List.set_cons_zero, List.set_cons_succ])
      refine wpAnyH_take (i := 2) (v := ?_) rfl (by kernel_rfl) (by kernel_rfl) (by kernel_rfl) (fun _ _ _ h => h) (Or.inl ⟨by rfl, ?_⟩) (by assumption) ?_
      rotate_left
      · intro wq hSw; (try dsimp only at hSw); go_simp; (try with_reducible rfl)
      (try simp only [List.getElem_toArray, List.getElem_cons_zero, List.getElem_cons_succ, Act.put, List.setIfInBounds_toArray, List.set_cons_zero, List.set_cons_succ])
      refine wpAnyH_take (i := 3) (v := ?_) rfl (by kernel_rfl) (by kernel_rfl) (by kernel_rfl) (fun _ _ _ h => h) (Or.inl ⟨by rfl, ?_⟩) (by assumption) ?_
      rotate_left
      · intro wq hSw; (try dsimp only at hSw); go_simp; (try with_reducible rfl)
      (try simp only [List.getElem_toArray, List.getElem_cons_zero, List.getElem_cons_succ, Act.put, List.setIfInBounds_toArray, List.set_cons_zero, List.set_cons_succ])
      refine wpAnyH_take (i := 4) (v := ?_) rfl (by kernel_rfl) (by kernel_rfl) (by kernel_rfl) (fun _ _ _ h => h) (Or.inl ⟨by rfl, ?_⟩) (by assumption) ?_
      rotate_left
      · intro wq hSw; (try dsimp only at hSw); go_simp; (try with_reducible rfl)
      (try simp only [List.getElem_toArray, List.getElem_cons_zero, List.getElem_cons_succ, Act.put, List.setIfInBounds_toArray, List.set_cons_zero, List.set_cons_succ])
      refine wpAnyH_take (i := 5) (v := ?_) rfl (by kernel_rfl) (by kernel_rfl) (by kernel_rfl) (fun _ _ _ h => h) (Or.inl ⟨by rfl, ?_⟩) (by assumption) ?_
      rotate_left
      · intro wq hSw; (try dsimp only at hSw); go_simp; (try with_reducible rfl)
      (try simp only [List.getElem_toArray, List.getElem_cons_zero, List.getElem_cons_succ, Act.put, List.setIfInBounds_toArray, List.set_cons_zero, List.set_cons_succ])
      refine wpAnyH_take (i := 6) (v := ?_) rfl (by kernel_rfl) (by kernel_rfl) (by kernel_rfl) (fun _ _ _ h => h) (Or.inl ⟨by rfl, ?_⟩) (by assumption) ?_
      rotate_left
      · intro wq hSw; (try dsimp only at hSw); go_simp; (try with_reducible rfl)
      (try simp only [List.getElem_toArray, List.getElem_cons_zero, List.getElem_cons_succ, Act.put, List.setIfInBounds_toArray, List.set_cons_zero, List.set_cons_succ])
      refine wpAnyH_ready (rs := [7]) (by kernel_rfl) (by simp) ?_
      refine AllReadyH.cons (i := 7) (by rfl) ?_ AllReadyH.nil
      intro K' hK
      refine if_yes (by kernel_rfl) ?_
      refine wp_stP rfl rfl rfl (B4.drew) rfl hs ?_
      refine hK.out _ _ ?_ (fun hHeld2 => ?_)
      · exact ⟨hHeld.1.rowFar (by omega) _, (cell_rowFar (by show g + 1 ≠ g4; omega) _).trans hHeld.2.1, (cell_rowFar (by show g + 1 ≠ g4; omega) _).trans hHeld.2.2.1, (cell_rowFar (by show g ≠ g4; omega) _).trans hHeld.2.2.2.1, (cell_rowFar (by show g ≠ g4; omega) _).trans hHeld.2.2.2.2⟩
      clear hK K' hHeld
      (try simp only [List.getElem_toArray, List.getElem_cons_zero, List.getElem_cons_succ, Act.put, List.setIfInBounds_toArray, List.set_cons_zero, List.set_cons_succ])
      have hHeld := hHeld2
      refine wpAnyH_take (i := 8) (v := ?_) rfl (by kernel_rfl) (by kernel_rfl) (by kernel_rfl) (fun _ _ _ h => h) (Or.inl ⟨by rfl, ?_⟩) (by assumption) ?_
      rotate_left
      · intro wq hSw; (try dsimp only at hSw); go_simp; (try with_reducible rfl)
      (try simp only [List.getElem_toArray, List.getElem_cons_zero, List.getElem_cons_succ, Act.put, List.setIfInBounds_toArray, List.set_cons_zero, List.set_cons_succ])
      refine wpAnyH_done (by kernel_rfl) ?_ _
      refine NoPanic.normal ?_
      go_wp2_with fail
      exact HF.out _ _ HR.out hs _ rfl rfl rfl _ (B4.drew.row _) (keep_row hB.drew (by omega) _)
  have t10 : (op == 10) = false := beq_false_of_ne (fun e => h10 (Or.inl e))
  have t15 : (op == 15) = false := beq_false_of_ne (fun e => h10 (Or.inr (Or.inl e)))
  have t17 : (op == 17) = false := beq_false_of_ne (fun e => h10 (Or.inr (Or.inr e)))
  by_cases h12 : op = 12
  · have hr : afterP s op an bn cn i pa pb pc = (s, (pa.kind == 2) && (pb.kind == 0)) := by unfold afterP; rw [if_neg h9, if_neg h10, if_pos h12]
    subst h12
    obtain ⟨rp, hrp⟩ : ∃ r, (pa.kind == 2) = r := ⟨_, rfl⟩
    obtain ⟨zb, hzb⟩ : ∃ r, (pb.kind == 0) = r := ⟨_, rfl⟩
    rw [hrp, hzb] at hr
    have HR := Lib.hid hr
    clear hr t9 t10 t15 t17
    cases rp
    · go_upto_region 9 with fail
      have hS0 : (fun w' => Blk w' g 78 (PS s) ∧ w'.cell? ⟨g + 1, 1, none⟩ = some (.int .i64 (an : Nat)) ∧ w'.cell? ⟨g + 1, 2, none⟩ = some (.int .i64 (bn : Nat)) ∧ w'.cell? ⟨g, an * 2, none⟩ = some (.int .i64 pa.kind) ∧ w'.cell? ⟨g, bq * 2, none⟩ = some (.int .i64 pb.kind)) (World.drew _) := ⟨B2, i1, i2, ka, kb⟩
      refine wp_region_noPanic ?_
      refine wp_region_held_drew (S := (fun w' => Blk w' g 78 (PS s) ∧ w'.cell? ⟨g + 1, 1, none⟩ = some (.int .i64 (an : Nat)) ∧ w'.cell? ⟨g + 1, 2, none⟩ = some (.int .i64 (bn : Nat)) ∧ w'.cell? ⟨g, an * 2, none⟩ = some (.int .i64 pa.kind) ∧ w'.cell? ⟨g, bq * 2, none⟩ = some (.int .i64 pb.kind))) (by kernel_rfl) hS0 (fun hHeld => ?_)
      clear hS0
      refine wpAnyH_take (i := 0) (v := .agg (PS s)) rfl (by kernel_rfl) (by kernel_rfl) (by kernel_rfl) (fun _ _ _ h => h) (Or.inl ⟨by rfl, fun wq hSw => exec_ldP rfl rfl hSw.1 hs⟩) (by assumption) ?_
      (try simp only [List.getElem_toArray, List.getElem_cons_zero, List.getElem_cons_succ, Act.put, List.setIfInBounds_toArray, List.set_cons_zero, List.set_cons_succ])
      refine wpAnyH_take (i := 1) (v := ?_) rfl (by kernel_rfl) (by kernel_rfl) (by kernel_rfl) (fun _ _ _ h => h) (Or.inl ⟨by rfl, ?_⟩) (by assumption) ?_
      rotate_left
      · intro wq hSw; (try dsimp only at hSw); go_simp; (try with_reducible rfl)
      (try simp only [List.getElem_toArray, List.getElem_cons_zero, List.getElem_cons_succ, Act.put, List.setIfInBounds_toArray, List.set_cons_zero, List.set_cons_succ])
      refine wpAnyH_take (i := 2) (v := ?_) rfl (by kernel_rfl) (by kernel_rfl) (by kernel_rfl) (fun _ _ _ h => h) (Or.inl ⟨by rfl, ?_⟩) (by assumption) ?_
      rotate_left
      · intro wq hSw; (try dsimp only at hSw); go_simp; (try with_reducible rfl)
      (try simp only [List.getElem_toArray, List.getElem_cons_zero, List.getElem_cons_succ, Act.put, List.setIfInBounds_toArray, List.set_cons_zero, List.set_cons_succ])
      refine wpAnyH_take (i := 3) (v := ?_) rfl (by kernel_rfl) (by kernel_rfl) (by kernel_rfl) (fun _ _ _ h => h) (Or.inl ⟨by rfl, ?_⟩) (by assumption) ?_
      rotate_left
      · intro wq hSw; (try dsimp only at hSw); go_simp; (try with_reducible rfl)
      (try simp only [List.getElem_toArray, List.getElem_cons_zero, List.getElem_cons_succ, Act.put, List.setIfInBounds_toArray, List.set_cons_zero, List.set_cons_succ])
      refine wpAnyH_take (i := 4) (v := ?_) rfl (by kernel_rfl) (by kernel_rfl) (by kernel_rfl) (fun _ _ _ h => h) (Or.inl ⟨by rfl, ?_⟩) (by assumption) ?_
      rotate_left
      · intro wq hSw; (try dsimp only at hSw); go_simp; (try with_reducible rfl)
      (try simp only [List.getElem_toArray, List.getElem_cons_zero, List.getElem_cons_succ, Act.put, List.setIfInBounds_toArray, List.set_cons_zero, List.set_cons_succ])
      refine wpAnyH_take (i := 5) (v := ?_) rfl (by kernel_rfl) (by kernel_rfl) (by kernel_rfl) (fun _ _ _ h => h) (Or.inl ⟨by rfl, ?_⟩) (by assumption) ?_
      rotate_left
      · intro wq hSw; (try dsimp only at hSw); go_simp; (try with_reducible rfl)
      (try simp only [List.getElem_toArray, List.getElem_cons_zero, List.getElem_cons_succ, Act.put, List.setIfInBounds_toArray, List.set_cons_zero, List.set_cons_succ])
      refine wpAnyH_take (i := 6) (v := ?_) rfl (by kernel_rfl) (by kernel_rfl) (by kernel_rfl) (fun _ _ _ h => h) (Or.inl ⟨by rfl, ?_⟩) (by assumption) ?_
      rotate_left
      · intro wq hSw; (try dsimp only at hSw); go_simp; (try with_reducible rfl)
      (try simp only [List.getElem_toArray, List.getElem_cons_zero, List.getElem_cons_succ, Act.put, List.setIfInBounds_toArray, List.set_cons_zero, List.set_cons_succ])
      refine wpAnyH_take (i := 7) (v := ?_) rfl (by kernel_rfl) (by kernel_rfl) (by kernel_rfl) (fun _ _ _ h => h) (Or.inl ⟨by rfl, ?_⟩) (by assumption) ?_
      rotate_left
      · intro wq hSw; (try dsimp only at hSw); go_simp; (try with_reducible rfl)
      (try simp only [List.getElem_toArray, List.getElem_cons_zero, List.getElem_cons_succ, Act.put, List.setIfInBounds_toArray, List.set_cons_zero, List.set_cons_succ])
      refine wpAnyH_take (i := 8) (v := undef) rfl (by kernel_rfl) (by kernel_rfl) (by kernel_rfl) (fun _ _ _ h => h) (Or.inr ⟨by rfl, rfl⟩) (by assumption) ?_
      (try simp only [List.getElem_toArray, List.getElem_cons_zero, List.getElem_cons_succ, Act.put, List.setIfInBounds_toArray, List.set_cons_zero, List.set_cons_succ])
      refine wpAnyH_take (i := 9) (v := undef) rfl (by kernel_rfl) (by kernel_rfl) (by kernel_rfl) (fun _ _ _ h => h) (Or.inr ⟨by rfl, rfl⟩) (by assumption) ?_
      (try simp only [List.getElem_toArray, List.getElem_cons_zero, List.getElem_cons_succ, Act.put, List.setIfInBounds_toArray, List.set_cons_zero, List.set_cons_succ])
      refine wpAnyH_take (i := 10) (v := undef) rfl (by kernel_rfl) (by kernel_rfl) (by kernel_rfl) (fun _ _ _ h => h) (Or.inr ⟨by rfl, rfl⟩) (by assumption) ?_
      (try simp only [List.getElem_toArray, List.getElem_cons_zero, List.getElem_cons_succ, Act.put, List.setIfInBounds_toArray, List.set_cons_zero, List.set_cons_succ])
      refine wpAnyH_take (i := 11) (v := undef) rfl (by kernel_rfl) (by kernel_rfl) (by kernel_rfl) (fun _ _ _ h => h) (Or.inr ⟨by rfl, rfl⟩) (by assumption) ?_
      (try simp only [List.getElem_toArray, List.getElem_cons_zero, List.getElem_cons_succ, Act.put, List.setIfInBounds_toArray, List.set_cons_zero, List.set_cons_succ])
      refine wpAnyH_take (i := 12) (v := undef) rfl (by kernel_rfl) (by kernel_rfl) (by kernel_rfl) (fun _ _ _ h => h) (Or.inr ⟨by rfl, rfl⟩) (by assumption) ?_
      (try simp only [List.getElem_toArray, List.getElem_cons_zero, List.getElem_cons_succ, Act.put, List.setIfInBounds_toArray, List.set_cons_zero, List.set_cons_succ])
      refine wpAnyH_take (i := 13) (v := undef) rfl (by kernel_rfl) (by kernel_rfl) (by kernel_rfl) (fun _ _ _ h => h) (Or.inr ⟨by rfl, rfl⟩) (by assumption) ?_
      (try simp only [List.getElem_toArray, List.getElem_cons_zero, List.getElem_cons_succ, Act.put, List.setIfInBounds_toArray, List.set_cons_zero, List.set_cons_succ])
      refine wpAnyH_take (i := 14) (v := undef) rfl (by kernel_rfl) (by kernel_rfl) (by kernel_rfl) (fun _ _ _ h => h) (Or.inr ⟨by rfl, rfl⟩) (by assumption) ?_
      (try simp only [List.getElem_toArray, List.getElem_cons_zero, List.getElem_cons_succ, Act.put, List.setIfInBounds_toArray, List.set_cons_zero, List.set_cons_succ])
      refine wpAnyH_take (i := 15) (v := ?_) rfl (by kernel_rfl) (by kernel_rfl) (by kernel_rfl) (fun _ _ _ h => h) (Or.inl ⟨by rfl, ?_⟩) (by assumption) ?_
      rotate_left
      · intro wq hSw; (try dsimp only at hSw); go_simp; (try with_reducible rfl)
      (try simp only [List.getElem_toArray, List.getElem_cons_zero, List.getElem_cons_succ, Act.put, List.setIfInBounds_toArray, List.set_cons_zero, List.set_cons_succ])
      refine wpAnyH_ready (rs := [16]) (by kernel_rfl) (by simp) ?_
      refine AllReadyH.cons (i := 16) (by rfl) ?_ AllReadyH.nil
      intro K' hK
      refine if_yes (by kernel_rfl) ?_
      refine wp_stP rfl rfl rfl (B4.drew) rfl hs ?_
      refine hK.out _ _ ?_ (fun hHeld2 => ?_)
      · exact ⟨hHeld.1.rowFar (by omega) _, (cell_rowFar (by show g + 1 ≠ g4; omega) _).trans hHeld.2.1, (cell_rowFar (by show g + 1 ≠ g4; omega) _).trans hHeld.2.2.1, (cell_rowFar (by show g ≠ g4; omega) _).trans hHeld.2.2.2.1, (cell_rowFar (by show g ≠ g4; omega) _).trans hHeld.2.2.2.2⟩
      clear hK K' hHeld
      (try simp only [List.getElem_toArray, List.getElem_cons_zero, List.getElem_cons_succ, Act.put, List.setIfInBounds_toArray, List.set_cons_zero, List.set_cons_succ])
      have hHeld := hHeld2
      refine wpAnyH_take (i := 17) (v := ?_) rfl (by kernel_rfl) (by kernel_rfl) (by kernel_rfl) (fun _ _ _ h => h) (Or.inl ⟨by rfl, ?_⟩) (by assumption) ?_
      rotate_left
      · intro wq hSw; (try dsimp only at hSw); go_simp; (try with_reducible rfl)
      (try simp only [List.getElem_toArray, List.getElem_cons_zero, List.getElem_cons_succ, Act.put, List.setIfInBounds_toArray, List.set_cons_zero, List.set_cons_succ])
      refine wpAnyH_done (by kernel_rfl) ?_ _
      refine NoPanic.normal ?_
      go_wp2_with fail
      exact HF.out _ _ HR.out hs _ rfl rfl rfl _ (B4.drew.row _) (keep_row hB.drew (by omega) _)
    · go_upto_region 9 with fail
      have hS0 : (fun w' => Blk w' g 78 (PS s) ∧ w'.cell? ⟨g + 1, 1, none⟩ = some (.int .i64 (an : Nat)) ∧ w'.cell? ⟨g + 1, 2, none⟩ = some (.int .i64 (bn : Nat)) ∧ w'.cell? ⟨g, an * 2, none⟩ = some (.int .i64 pa.kind) ∧ w'.cell? ⟨g, bq * 2, none⟩ = some (.int .i64 pb.kind)) (World.drew _) := ⟨B2, i1, i2, ka, kb⟩
      refine wp_region_noPanic ?_
      refine wp_region_held_drew (S := (fun w' => Blk w' g 78 (PS s) ∧ w'.cell? ⟨g + 1, 1, none⟩ = some (.int .i64 (an : Nat)) ∧ w'.cell? ⟨g + 1, 2, none⟩ = some (.int .i64 (bn : Nat)) ∧ w'.cell? ⟨g, an * 2, none⟩ = some (.int .i64 pa.kind) ∧ w'.cell? ⟨g, bq * 2, none⟩ = some (.int .i64 pb.kind))) (by kernel_rfl) hS0 (fun hHeld => ?_)
      clear hS0
      refine wpAnyH_take (i := 0) (v := .agg (PS s)) rfl (by kernel_rfl) (by kernel_rfl) (by kernel_rfl) (fun _ _ _ h => h) (Or.inl ⟨by rfl, fun wq hSw => exec_ldP rfl rfl hSw.1 hs⟩) (by assumption) ?_
      (try simp only [List.getElem_toArray, List.getElem_cons_zero, List.getElem_cons_succ, Act.put, List.setIfInBounds_toArray, List.set_cons_zero, List.set_cons_succ])
      refine wpAnyH_take (i := 1) (v := ?_) rfl (by kernel_rfl) (by kernel_rfl) (by kernel_rfl) (fun _ _ _ h => h) (Or.inl ⟨by rfl, ?_⟩) (by assumption) ?_
      rotate_left
      · intro wq hSw; (try dsimp only at hSw); go_simp; (try with_reducible rfl)
      (try simp only [List.getElem_toArray, List.getElem_cons_zero, List.getElem_cons_succ, Act.put, List.setIfInBounds_toArray, List.set_cons_zero, List.set_cons_succ])
      refine wpAnyH_take (i := 2) (v := ?_) rfl (by kernel_rfl) (by kernel_rfl) (by kernel_rfl) (fun _ _ _ h => h) (Or.inl ⟨by rfl, ?_⟩) (by assumption) ?_
      rotate_left
      · intro wq hSw; (try dsimp only at hSw); go_simp; (try with_reducible rfl)
      (try simp only [List.getElem_toArray, List.getElem_cons_zero, List.getElem_cons_succ, Act.put, List.setIfInBounds_toArray, List.set_cons_zero, List.set_cons_succ])
      refine wpAnyH_take (i := 3) (v := ?_) rfl (by kernel_rfl) (by kernel_rfl) (by kernel_rfl) (fun _ _ _ h => h) (Or.inl ⟨by rfl, ?_⟩) (by assumption) ?_
      rotate_left
      · intro wq hSw; (try dsimp only at hSw); go_simp; (try with_reducible rfl)
      (try simp only [List.getElem_toArray, List.getElem_cons_zero, List.getElem_cons_succ, Act.put, List.setIfInBounds_toArray, List.set_cons_zero, List.set_cons_succ])
      refine wpAnyH_take (i := 4) (v := ?_) rfl (by kernel_rfl) (by kernel_rfl) (by kernel_rfl) (fun _ _ _ h => h) (Or.inl ⟨by rfl, ?_⟩) (by assumption) ?_
      rotate_left
      · intro wq hSw; (try dsimp only at hSw); go_simp; (try with_reducible rfl)
      (try simp only [List.getElem_toArray, List.getElem_cons_zero, List.getElem_cons_succ, Act.put, List.setIfInBounds_toArray, List.set_cons_zero, List.set_cons_succ])
      refine wpAnyH_take (i := 5) (v := ?_) rfl (by kernel_rfl) (by kernel_rfl) (by kernel_rfl) (fun _ _ _ h => h) (Or.inl ⟨by rfl, ?_⟩) (by assumption) ?_
      rotate_left
      · intro wq hSw; (try dsimp only at hSw); go_simp; (try with_reducible rfl)
      (try simp only [List.getElem_toArray, List.getElem_cons_zero, List.getElem_cons_succ, Act.put, List.setIfInBounds_toArray, List.set_cons_zero, List.set_cons_succ])
      refine wpAnyH_take (i := 6) (v := ?_) rfl (by kernel_rfl) (by kernel_rfl) (by kernel_rfl) (fun _ _ _ h => h) (Or.inl ⟨by rfl, ?_⟩) (by assumption) ?_
      rotate_left
      · intro wq hSw; (try dsimp only at hSw); go_simp; (try with_reducible rfl)
      (try simp only [List.getElem_toArray, List.getElem_cons_zero, List.getElem_cons_succ, Act.put, List.setIfInBounds_toArray, List.set_cons_zero, List.set_cons_succ])
      refine wpAnyH_take (i := 7) (v := ?_) rfl (by kernel_rfl) (by kernel_rfl) (by kernel_rfl) (fun _ _ _ h => h) (Or.inl ⟨by rfl, ?_⟩) (by assumption) ?_
      rotate_left
      · intro wq hSw; (try dsimp only at hSw); go_simp; (try with_reducible rfl)
      (try simp only [List.getElem_toArray, List.getElem_cons_zero, List.getElem_cons_succ, Act.put, List.setIfInBounds_toArray, List.set_cons_zero, List.set_cons_succ])
      refine wpAnyH_take (i := 8) (v := ?_) rfl (by kernel_rfl) (by kernel_rfl) (by kernel_rfl) (fun _ _ _ h => h) (Or.inl ⟨by rfl, ?_⟩) (by assumption) ?_
      rotate_left
      · intro wq hSw; (try dsimp only at hSw); go_simp; (try with_reducible rfl)
      (try simp only [List.getElem_toArray, List.getElem_cons_zero, List.getElem_cons_succ, Act.put, List.setIfInBounds_toArray, List.set_cons_zero, List.set_cons_succ])
      refine wpAnyH_take (i := 9) (v := ?_) rfl (by kernel_rfl) (by kernel_rfl) (by kernel_rfl) (fun _ _ _ h => h) (Or.inl ⟨by rfl, ?_⟩) (by assumption) ?_
      rotate_left
      · intro wq hSw; (try dsimp only at hSw); go_simp; (try with_reducible rfl)
      (try simp only [List.getElem_toArray, List.getElem_cons_zero, List.getElem_cons_succ, Act.put, List.setIfInBounds_toArray, List.set_cons_zero, List.set_cons_succ])
      refine wpAnyH_take (i := 10) (v := ?_) rfl (by kernel_rfl) (by kernel_rfl) (by kernel_rfl) (fun _ _ _ h => h) (Or.inl ⟨by rfl, ?_⟩) (by assumption) ?_
      rotate_left
      · intro wq hSw; (try dsimp only at hSw); go_simp; (try with_reducible rfl)
      (try simp only [List.getElem_toArray, List.getElem_cons_zero, List.getElem_cons_succ, Act.put, List.setIfInBounds_toArray, List.set_cons_zero, List.set_cons_succ])
      refine wpAnyH_take (i := 11) (v := ?_) rfl (by kernel_rfl) (by kernel_rfl) (by kernel_rfl) (fun _ _ _ h => h) (Or.inl ⟨by rfl, ?_⟩) (by assumption) ?_
      rotate_left
      · intro wq hSw; (try dsimp only at hSw); go_simp; (try with_reducible rfl)
      (try simp only [List.getElem_toArray, List.getElem_cons_zero, List.getElem_cons_succ, Act.put, List.setIfInBounds_toArray, List.set_cons_zero, List.set_cons_succ])
      refine wpAnyH_take (i := 12) (v := ?_) rfl (by kernel_rfl) (by kernel_rfl) (by kernel_rfl) (fun _ _ _ h => h) (Or.inl ⟨by rfl, ?_⟩) (by assumption) ?_
      rotate_left
      · intro wq hSw; (try dsimp only at hSw); go_simp; (try with_reducible rfl)
      (try simp only [List.getElem_toArray, List.getElem_cons_zero, List.getElem_cons_succ, Act.put, List.setIfInBounds_toArray, List.set_cons_zero, List.set_cons_succ])
      refine wpAnyH_take (i := 13) (v := ?_) rfl (by kernel_rfl) (by kernel_rfl) (by kernel_rfl) (fun _ _ _ h => h) (Or.inl ⟨by rfl, ?_⟩) (by assumption) ?_
      rotate_left
      · intro wq hSw; (try dsimp only at hSw); go_simp; (try with_reducible rfl)
      (try simp only [List.getElem_toArray, List.getElem_cons_zero, List.getElem_cons_succ, Act.put, List.setIfInBounds_toArray, List.set_cons_zero, List.set_cons_succ])
      refine wpAnyH_take (i := 14) (v := ?_) rfl (by kernel_rfl) (by kernel_rfl) (by kernel_rfl) (fun _ _ _ h => h) (Or.inl ⟨by rfl, ?_⟩) (by assumption) ?_
      rotate_left
      · intro wq hSw; (try dsimp only at hSw); go_simp; (try with_reducible rfl)
      (try simp only [List.getElem_toArray, List.getElem_cons_zero, List.getElem_cons_succ, Act.put, List.setIfInBounds_toArray, List.set_cons_zero, List.set_cons_succ])
      refine wpAnyH_take (i := 15) (v := ?_) rfl (by kernel_rfl) (by kernel_rfl) (by kernel_rfl) (fun _ _ _ h => h) (Or.inl ⟨by rfl, ?_⟩) (by assumption) ?_
      rotate_left
      · intro wq hSw; (try dsimp only at hSw); go_simp; (try with_reducible rfl)
      (try simp only [List.getElem_toArray, List.getElem_cons_zero, List.getElem_cons_succ, Act.put, List.setIfInBounds_toArray, List.set_cons_zero, List.set_cons_succ])
      refine wpAnyH_ready (rs := [16]) (by kernel_rfl) (by simp) ?_
      refine AllReadyH.cons (i := 16) (by rfl) ?_ AllReadyH.nil
      intro K' hK
      refine if_yes (by kernel_rfl) ?_
      refine wp_stP rfl rfl rfl (B4.drew) rfl hs ?_
      refine hK.out _ _ ?_ (fun hHeld2 => ?_)
      · exact ⟨hHeld.1.rowFar (by omega) _, (cell_rowFar (by show g + 1 ≠ g4; omega) _).trans hHeld.2.1, (cell_rowFar (by show g + 1 ≠ g4; omega) _).trans hHeld.2.2.1, (cell_rowFar (by show g ≠ g4; omega) _).trans hHeld.2.2.2.1, (cell_rowFar (by show g ≠ g4; omega) _).trans hHeld.2.2.2.2⟩
      clear hK K' hHeld
      (try simp only [List.getElem_toArray, List.getElem_cons_zero, List.getElem_cons_succ, Act.put, List.setIfInBounds_toArray, List.set_cons_zero, List.set_cons_succ])
      have hHeld := hHeld2
      refine wpAnyH_take (i := 17) (v := ?_) rfl (by kernel_rfl) (by kernel_rfl) (by kernel_rfl) (fun _ _ _ h => h) (Or.inl ⟨by rfl, ?_⟩) (by assumption) ?_
      rotate_left
      · intro wq hSw; (try dsimp only at hSw); go_simp; (try with_reducible rfl)
      (try simp only [List.getElem_toArray, List.getElem_cons_zero, List.getElem_cons_succ, Act.put, List.setIfInBounds_toArray, List.set_cons_zero, List.set_cons_succ])
      refine wpAnyH_done (by kernel_rfl) ?_ _
      refine NoPanic.normal ?_
      go_wp2_with fail
      exact HF.out _ _ HR.out hs _ rfl rfl rfl _ (B4.drew.row _) (keep_row hB.drew (by omega) _)
  have t12 : (op == 12) = false := beq_false_of_ne h12
  by_cases h14 : op = 14
  · have hr : afterP s op an bn cn i pa pb pc = (s.set an .wd, wordsS s cn 8) := by unfold afterP; rw [if_neg h9, if_neg h10, if_neg h12, if_pos h14]
    subst h14
    have HR := Lib.hid hr
    clear hr t9 t10 t12 t15 t17
    go_upto_region 12 with (first | (refine ldP rfl rfl rfl B2 hs ?_) | (go_at_call 48; refine (words_any s hs cn 8 (by omega) hc8 (by omega) _).mono ?_; rintro e w1 ⟨rfl, hb1⟩))
    have B2' := B2.below hb1
    have B4' := B4.below hb1
    have hB' := keep_belowA hb1 hB (by have := B4.lt; omega)
    have j1 := keep_cell hb1 i1
    obtain ⟨ea, ea1⟩ := srt_far B2' hpa
    have ef := B2'.free
    clear B2 B4 hB i0 i1 i2 i3 i4 ka ka1 kb kb1 hb1
    go_upto_region 13 with fail
    have B2s := PS_set (l := s) (i := an) (by omega) .wd ▸ (B2'.set (an * 2) (.int .i64 Srt.wd.kind)).set (an * 2 + 1) (.int .i64 Srt.wd.at_)
    have B4s := (B4'.far (p := ⟨g, an * 2, none⟩) (by show g4 ≠ g; omega) (.int .i64 Srt.wd.kind)).far (p := ⟨g, an * 2 + 1, none⟩) (by show g4 ≠ g; omega) (.int .i64 Srt.wd.at_)
    have hBs := (hB'.setCell (p := ⟨g, an * 2, none⟩) (Nat.le_refl _) (.int .i64 Srt.wd.kind)).setCell (p := ⟨g, an * 2 + 1, none⟩) (Nat.le_refl _) (.int .i64 Srt.wd.at_)
    have hsl : (s.set an Srt.wd).length = 8 := by rw [List.length_set]; exact hs
    clear B2' B4' hB' j1 ea ea1 ef
    go_wp2_with (first | (refine ldP rfl rfl rfl B2s hsl ?_) | (refine stP rfl rfl rfl rfl B4s rfl hsl ?_))
    exact HF.out _ _ HR.out hsl _ rfl rfl rfl _ (B4s.row _) (keep_row hBs (by omega) _)
  have t14 : (op == 14) = false := beq_false_of_ne h14
  by_cases h13 : op = 13
  · have hr : afterP s op an bn cn i pa pb pc = (calledS s an bn i, wordsS s cn (min (cn + (argsN bn).toNat) 8)) := by unfold afterP; rw [if_neg h9, if_neg h10, if_neg h12, if_neg h14, if_pos h13]
    subst h13
    have HR := Lib.hid hr
    clear hr t9 t10 t12 t14 t15 t17
    obtain ⟨ar, har, har3⟩ : ∃ ar : Nat, argsN bn = ar ∧ ar ≤ 3 := by
      have h0 := argsN_range bn
      exact ⟨(argsN bn).toNat, by omega, by omega⟩
    rw [har, Int.toNat_natCast] at HR
    have HAR := Lib.hid har
    clear har
    go_upto_region 15 with fail
    have I2 := Lag.cell i2
    have I3 := Lag.cell i3
    refine wp_region_lag (by kernel_rfl) (by kernel_rfl) ?_
    go_big_quiet_want
    refine quiet_ldP rfl rfl (fun w' hw' => hw'.elim fun u hu => hu ▸ B2.below u.h) hs ?_
    simp only [Act.put, List.setIfInBounds_toArray, List.set_cons_zero, List.set_cons_succ]
    go_big_quiet_on
    iterate 6 (go_big_quiet_step (fail))
    go_big_quiet_step ((go_at_call 10; exact Calls.lag_same (args_val _ _ _ HAR.out)))
    iterate 2 (go_big_quiet_step (fail))
    go_big_quiet_step ((go_at_call 48; exact Calls.lag (words_val hs hc8 har3 _)))
    go_big_quiet_step (fail)
    refine wpQuiet_nil ?_
    rintro w2 ⟨uu, hu⟩
    have hb2 : Below w0.heap.size w0 w2 := hu ▸ uu.h
    clear hu uu I2 I3
    obtain ⟨vm, hvm⟩ : ∃ vm, (if 8 < (cn : Int) + (ar : Int) then (8 : Int) else (cn : Int) + (ar : Int)) = vm := ⟨_, rfl⟩
    rw [hvm]
    clear hvm
    obtain ⟨h10, hh10⟩ : ∃ h10, w2.heap.size = h10 := ⟨_, rfl⟩
    have hgs := hb2.size
    have hlt4 := B4.lt
    have B2c := (B2.below hb2).alloc (.cells #[.int .i64 0, .int .i64 0] 76)
    have B4c := (B4.below hb2).alloc (.cells #[.int .i64 0, .int .i64 0] 76)
    have BTc := Blk.newAt w2 #[.int .i64 0, .int .i64 0] 76 h10 hh10
    have hBc := (keep_belowA hb2 hB (by omega)).alloc (by omega) (.cells #[.int .i64 0, .int .i64 0] 76)
    have j1 := keep_cell (keep_alloc hb2 (.cells #[.int .i64 0, .int .i64 0] 76)) i1
    have j2 := keep_cell (keep_alloc hb2 (.cells #[.int .i64 0, .int .i64 0] 76)) i2
    have n4 : g4 ≠ h10 := by omega
    have n2 : g ≠ h10 := by omega
    have hgh : g < h10 := by omega
    have n3 : g + 1 ≠ h10 := by omega
    have hsz2 : g + 1 < w2.heap.size := by omega
    clear B2 B4 B3 hB i0 i1 i2 i3 i4 ka ka1 kb kb1
    go_upto_region 17 with fail
    have hw3' : ∃ w3, w3 = w2.alloc (.cells #[.int .i64 0, .int .i64 0] 76) := ⟨_, rfl⟩
    obtain ⟨w3, hw3⟩ := hw3'
    rw [← hw3] at B2c B4c BTc hBc j1 j2 ⊢
    clear hw3 hb2 hsz2 hgs hlt4
    have y0 := BTc.cell 0 _ rfl
    have y1 := BTc.cell 1 _ rfl
    have yf := BTc.free
    by_cases hb19 : bn = 19
    · subst hb19
      have hcs : calledS s an ((19 : Nat) : Int) i = (s.map (forgetS i)).set an (.raw i) := by
        have e : calledG 19 i = forgetS i := by funext x; unfold calledG; rw [if_pos rfl]
        show (s.map (calledG 19 i)).set an (if (19 : Int) = 19 then _ else _) = _
        rw [if_pos rfl, e]
      have hr := HR.out
      rw [hcs] at hr
      have HR2 := Lib.hid hr
      clear hr hcs HR
      have hml : ((s.map (forgetS i))).length = 8 := by rw [List.length_map]; exact hs
      go_upto_region 22 with (first | (refine ldP rfl rfl rfl B2c hs ?_) | (refine stP rfl rfl rfl rfl B2d (PS_size hs) hml ?_) | (go_at_call 49; refine (forget_any s hs _ _).mono ?_; rintro e w4 ⟨rfl, hb4⟩; have B2d := B2c.below hb4; have BTd := (BTc.below hb4).rowFar n2.symm (PS (s.map (forgetS i))); have u0 := BTd.cell 0 _ rfl; have u1 := BTd.cell 1 _ rfl; have uf := BTd.free))
      have B2e := ((B2d.row (PS (s.map (forgetS i)))).far (p := ⟨h10, 0, none⟩) n2 (.int .i64 2)).far (p := ⟨h10, 1, none⟩) n2 (.int .i64 i)
      have BTe := (BTd.set 0 (.int .i64 2)).set 1 (.int .i64 i)
      have B4e := (((B4c.below hb4).rowFar (g := g) (by omega) (PS (s.map (forgetS i)))).far (p := ⟨h10, 0, none⟩) n4 (.int .i64 2)).far (p := ⟨h10, 1, none⟩) n4 (.int .i64 i)
      have hBe := ((keep_row (keep_belowA hb4 hBc (by have := B4c.lt; omega)) (Nat.le_refl g) (PS (s.map (forgetS i)))).setCell (p := ⟨h10, 0, none⟩) (show g ≤ h10 by omega) (.int .i64 2)).setCell (p := ⟨h10, 1, none⟩) (show g ≤ h10 by omega) (.int .i64 i)
      have j1e := (World.cell?_setCell_far _ ⟨h10, 1, none⟩ ⟨g + 1, 1, none⟩ (.int .i64 i) n3.symm).trans ((World.cell?_setCell_far _ ⟨h10, 0, none⟩ ⟨g + 1, 1, none⟩ (.int .i64 2) n3.symm).trans ((cell_rowFar (g := g) (by show g + 1 ≠ g; omega) (PS (s.map (forgetS i)))).trans (keep_cell hb4 j1)))
      clear B2d BTd u0 u1 uf hb4
      clear B2c B4c BTc hBc j1 j2 y0 y1 yf
      have z0 := BTe.cell 0 _ rfl
      have z1 := BTe.cell 1 _ rfl
      obtain ⟨q, hq⟩ : ∃ q, ((s.map (forgetS i)))[an]? = some q := ⟨_, List.getElem?_eq_getElem (by omega)⟩
      obtain ⟨ea, ea1⟩ := srt_far B2e hq
      have ef := B2e.free
      obtain ⟨w5, hw5⟩ : ∃ w5, (((w4.setRow g (PS (s.map (forgetS i)))).setCell ⟨h10, 0, none⟩ (.int .i64 2)).setCell ⟨h10, 1, none⟩ (.int .i64 i)) = w5 := ⟨_, rfl⟩
      rw [hw5] at B2e B4e hBe j1e z0 z1 ea ea1 ef ⊢
      clear BTe hw5
      go_upto_region 23 with fail
      have B2s := PS_set (l := (s.map (forgetS i))) (i := an) (by omega) (.raw i) ▸ (B2e.set (an * 2) (.int .i64 (Srt.kind (.raw i)))).set (an * 2 + 1) (.int .i64 (Srt.at_ (.raw i)))
      have B4s := (B4e.far (p := ⟨g, an * 2, none⟩) (by show g4 ≠ g; omega) (.int .i64 (Srt.kind (.raw i)))).far (p := ⟨g, an * 2 + 1, none⟩) (by show g4 ≠ g; omega) (.int .i64 (Srt.at_ (.raw i)))
      have hBs := (hBe.setCell (p := ⟨g, an * 2, none⟩) (Nat.le_refl _) (.int .i64 (Srt.kind (.raw i)))).setCell (p := ⟨g, an * 2 + 1, none⟩) (Nat.le_refl _) (.int .i64 (Srt.at_ (.raw i)))
      have hsl : (((s.map (forgetS i))).set an (.raw i)).length = 8 := by rw [List.length_set]; exact hml
      clear B2e B4e hBe j1e z0 z1 ea ea1 ef
      go_wp2_with (first | (refine ldP rfl rfl rfl B2s hsl ?_) | (refine stP rfl rfl rfl rfl B4s rfl hsl ?_))
      exact HF.out _ _ HR2.out hsl _ rfl rfl rfl _ (B4s.row _) (keep_row hBs (by omega) _)
    by_cases hb20 : bn = 20
    · subst hb20
      have hcs : calledS s an ((20 : Nat) : Int) i = (s.map (forgetS (-1))).set an .wd := by
        have e : calledG 20 i = forgetS (-1) := by funext x; unfold calledG; rw [if_neg (by decide), if_pos rfl]
        show (s.map (calledG 20 i)).set an (if (20 : Int) = 19 then _ else _) = _
        rw [if_neg (by decide), e]
      have hr := HR.out
      rw [hcs] at hr
      have HR2 := Lib.hid hr
      clear hr hcs HR
      have hml : ((s.map (forgetS (-1)))).length = 8 := by rw [List.length_map]; exact hs
      go_upto_region 22 with (first | (refine ldP rfl rfl rfl B2c hs ?_) | (refine stP rfl rfl rfl rfl B2d (PS_size hs) hml ?_) | (go_at_call 49; refine (forget_any s hs _ _).mono ?_; rintro e w4 ⟨rfl, hb4⟩; have B2d := B2c.below hb4))
      have B2e := B2d.row (PS (s.map (forgetS (-1))))
      have BTe := (BTc.below hb4).rowFar n2.symm (PS (s.map (forgetS (-1))))
      have B4e := (B4c.below hb4).rowFar (g := g) (by omega) (PS (s.map (forgetS (-1))))
      have hBe := keep_row (keep_belowA hb4 hBc (by have := B4c.lt; omega)) (Nat.le_refl g) (PS (s.map (forgetS (-1))))
      have j1e := (cell_rowFar (g := g) (by show g + 1 ≠ g; omega) (PS (s.map (forgetS (-1))))).trans (keep_cell hb4 j1)
      clear B2d hb4
      clear B2c B4c BTc hBc j1 j2 y0 y1 yf
      have z0 := BTe.cell 0 _ rfl
      have z1 := BTe.cell 1 _ rfl
      obtain ⟨q, hq⟩ : ∃ q, ((s.map (forgetS (-1))))[an]? = some q := ⟨_, List.getElem?_eq_getElem (by omega)⟩
      obtain ⟨ea, ea1⟩ := srt_far B2e hq
      have ef := B2e.free
      obtain ⟨w5, hw5⟩ : ∃ w5, (w4.setRow g (PS (s.map (forgetS (-1))))) = w5 := ⟨_, rfl⟩
      rw [hw5] at B2e B4e hBe j1e z0 z1 ea ea1 ef ⊢
      clear BTe hw5
      go_upto_region 23 with fail
      have B2s := PS_set (l := (s.map (forgetS (-1)))) (i := an) (by omega) .wd ▸ (B2e.set (an * 2) (.int .i64 (Srt.kind .wd))).set (an * 2 + 1) (.int .i64 (Srt.at_ .wd))
      have B4s := (B4e.far (p := ⟨g, an * 2, none⟩) (by show g4 ≠ g; omega) (.int .i64 (Srt.kind .wd))).far (p := ⟨g, an * 2 + 1, none⟩) (by show g4 ≠ g; omega) (.int .i64 (Srt.at_ .wd))
      have hBs := (hBe.setCell (p := ⟨g, an * 2, none⟩) (Nat.le_refl _) (.int .i64 (Srt.kind .wd))).setCell (p := ⟨g, an * 2 + 1, none⟩) (Nat.le_refl _) (.int .i64 (Srt.at_ .wd))
      have hsl : (((s.map (forgetS (-1)))).set an .wd).length = 8 := by rw [List.length_set]; exact hml
      clear B2e B4e hBe j1e z0 z1 ea ea1 ef
      go_wp2_with (first | (refine ldP rfl rfl rfl B2s hsl ?_) | (refine stP rfl rfl rfl rfl B4s rfl hsl ?_))
      exact HF.out _ _ HR2.out hsl _ rfl rfl rfl _ (B4s.row _) (keep_row hBs (by omega) _)
    · have tb19 : ((bn : Int) == 19) = false := beq_false_of_ne (by omega)
      have tb20 : ((bn : Int) == 20) = false := beq_false_of_ne (by omega)
      have hcs : calledS s an ((bn : Nat) : Int) i = s.set an .wd := by
        have e : s.map (calledG bn i) = s := (List.map_congr_left (fun x _ => by unfold calledG; rw [if_neg (by omega), if_neg (by omega)]; rfl)).trans (List.map_id s)
        unfold calledS; rw [if_neg (by omega), e]
      have hr := HR.out
      rw [hcs] at hr
      have HR2 := Lib.hid hr
      clear hr hcs HR
      have hml : (s).length = 8 := by exact hs
      go_upto_region 22 with fail
      have B2e := B2c
      have BTe := BTc
      have B4e := B4c
      have hBe := hBc
      have j1e := j1
      clear B2c B4c BTc hBc j1 j2 y0 y1 yf
      have z0 := BTe.cell 0 _ rfl
      have z1 := BTe.cell 1 _ rfl
      obtain ⟨q, hq⟩ : ∃ q, (s)[an]? = some q := ⟨_, List.getElem?_eq_getElem (by omega)⟩
      obtain ⟨ea, ea1⟩ := srt_far B2e hq
      have ef := B2e.free
      obtain ⟨w5, hw5⟩ : ∃ w5, w3 = w5 := ⟨_, rfl⟩
      rw [hw5] at B2e B4e hBe j1e z0 z1 ea ea1 ef ⊢
      clear BTe hw5
      go_upto_region 23 with fail
      have B2s := PS_set (l := s) (i := an) (by omega) .wd ▸ (B2e.set (an * 2) (.int .i64 (Srt.kind .wd))).set (an * 2 + 1) (.int .i64 (Srt.at_ .wd))
      have B4s := (B4e.far (p := ⟨g, an * 2, none⟩) (by show g4 ≠ g; omega) (.int .i64 (Srt.kind .wd))).far (p := ⟨g, an * 2 + 1, none⟩) (by show g4 ≠ g; omega) (.int .i64 (Srt.at_ .wd))
      have hBs := (hBe.setCell (p := ⟨g, an * 2, none⟩) (Nat.le_refl _) (.int .i64 (Srt.kind .wd))).setCell (p := ⟨g, an * 2 + 1, none⟩) (Nat.le_refl _) (.int .i64 (Srt.at_ .wd))
      have hsl : ((s).set an .wd).length = 8 := by rw [List.length_set]; exact hml
      clear B2e B4e hBe j1e z0 z1 ea ea1 ef
      go_wp2_with (first | (refine ldP rfl rfl rfl B2s hsl ?_) | (refine stP rfl rfl rfl rfl B4s rfl hsl ?_))
      exact HF.out _ _ HR2.out hsl _ rfl rfl rfl _ (B4s.row _) (keep_row hBs (by omega) _)
  · obtain ⟨r, v, hrv⟩ : ∃ r v, resS op pb pc = (r, v) := ⟨_, _, rfl⟩
    have hr : afterP s op an bn cn i pa pb pc = (s.set an r, v) := by unfold afterP; rw [if_neg h9, if_neg h10, if_neg h12, if_neg h14, if_neg h13, hrv]
    have t13 : (op == 13) = false := beq_false_of_ne h13
    have HR := Lib.hid hr
    have HRV := Lib.hid hrv
    clear hr hrv ka ka1 kb kb1
    go_upto_region 25 with (first | (refine ldP rfl rfl rfl B2 hs ?_) | (go_at_call 50; refine (result_val (by omega) (by omega) (by omega) (by rw [htm]; exact hpb) hpc HRV.out _).mono ?_; rintro e w1 ⟨rfl, hb1⟩))
    have B2' := (B2.below hb1).alloc (.cells #[.int .i64 r.kind, .int .i64 r.at_] 76)
    have B4' := (B4.below hb1).alloc (.cells #[.int .i64 r.kind, .int .i64 r.at_] 76)
    have hB' := (keep_belowA hb1 hB (by have := B4.lt; omega)).alloc (by have := B4.lt; have := hb1.size; omega) (.cells #[.int .i64 r.kind, .int .i64 r.at_] 76)
    have B1 := Blk.new w1 #[.int .i64 r.kind, .int .i64 r.at_] 76
    have z0 := B1.cell 0 _ rfl
    have z1 := B1.cell 1 _ rfl
    have j1 := keep_cell (keep_alloc hb1 (.cells #[.int .i64 r.kind, .int .i64 r.at_] 76)) i1
    obtain ⟨ea, ea1⟩ := srt_far B2' hpa
    have ef := B2'.free
    obtain ⟨w2, hw2⟩ : ∃ w2, w1.alloc (.cells #[.int .i64 r.kind, .int .i64 r.at_] 76) = w2 := ⟨_, rfl⟩
    obtain ⟨g1, hg1⟩ : ∃ g1, w1.heap.size = g1 := ⟨_, rfl⟩
    rw [hw2] at B2' B4' hB' z0 z1 j1 ea ea1 ef ⊢
    rw [hg1] at z0 z1 ⊢
    clear B1 B2 B4 B3 hB i0 i1 i2 i3 i4 hb1 hw2 hg1
    go_upto_region 26 with fail
    have B2s := PS_set (l := s) (i := an) (by omega) r ▸ (B2'.set (an * 2) (.int .i64 r.kind)).set (an * 2 + 1) (.int .i64 r.at_)
    have B4s := (B4'.far (p := ⟨g, an * 2, none⟩) (by show g4 ≠ g; omega) (.int .i64 r.kind)).far (p := ⟨g, an * 2 + 1, none⟩) (by show g4 ≠ g; omega) (.int .i64 r.at_)
    have hBs := (hB'.setCell (p := ⟨g, an * 2, none⟩) (Nat.le_refl _) (.int .i64 r.kind)).setCell (p := ⟨g, an * 2 + 1, none⟩) (Nat.le_refl _) (.int .i64 r.at_)
    have hsl : (s.set an r).length = 8 := by rw [List.length_set]; exact hs
    clear B2' B4' hB' j1 ea ea1 ef z0 z1
    go_wp2_with (first | (refine ldP rfl rfl rfl B2s hsl ?_) | (refine stP rfl rfl rfl rfl B4s rfl hsl ?_))
    exact HF.out _ _ HR.out hsl _ rfl rfl rfl _ (B4s.row _) (keep_row hBs (by omega) _)
end Go.Proofs.Ytpmdgmgcbminaaa

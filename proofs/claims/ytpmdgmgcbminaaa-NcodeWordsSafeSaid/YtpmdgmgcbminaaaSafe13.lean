/- The reference's table in memory: a row of eight numbers for each index; its step and the program's. -/
import Derived.Test.YtpmdgmgcbminaaaSafe12
import Derived.Deep.MidRow
namespace Go.Proofs.Ytpmdgmgcbminaaa
open Go.ChangeShapes Go.WideShapes Go.RowKit Words

/-! ### cells in the middle of a block -/
def putL : List Int → Nat → List Int → List Int
  | bl, _, [] => bl
  | bl, o, v :: r => putL (bl.set o v) (o + 1) r
theorem putL_len : ∀ (vs bl : List Int) (o : Nat), (putL bl o vs).length = bl.length
  | [], _, _ => rfl
  | v :: r, bl, o => by rw [putL, putL_len r]; simp
theorem putL_at : ∀ (vs bl : List Int) (o p : Nat), o + vs.length ≤ bl.length → (putL bl o vs)[p]? = if o ≤ p ∧ p < o + vs.length then vs[p - o]? else bl[p]?
  | [], bl, o, p, _ => by rw [putL, if_neg (by simp only [List.length_nil]; omega)]
  | v :: r, bl, o, p, h => by
    rw [putL, putL_at r (bl.set o v) (o + 1) p (by simp at h ⊢; omega)]
    simp only [List.length_cons] at h ⊢
    by_cases h1 : o + 1 ≤ p ∧ p < o + 1 + r.length
    · rw [if_pos h1, if_pos (by omega), show p - o = (p - (o + 1)) + 1 by omega, List.getElem?_cons_succ]
    · rw [if_neg h1]
      by_cases h2 : p = o
      · subst h2
        rw [if_pos (by omega), List.getElem?_set_self (by omega), Nat.sub_self]; rfl
      · rw [if_neg (by omega), List.getElem?_set_ne (fun e => h2 e.symm)]
theorem Blk.cells {b : Nat} {t : TypeId} : ∀ (vs : List Int) (o : Nat) {w : World} {bl : List Int}, Blk w b t (IS bl) → Blk (w.setCells b o (vs.map (Value.int .i64))) b t (IS (putL bl o vs))
  | [], _, _, _, h => h
  | v :: r, o, _, bl, h => by
    have h1 := h.set o (.int .i64 v)
    rw [IS_set] at h1
    exact Blk.cells r (o + 1) h1
theorem Blk.farCells {b g : Nat} {t : TypeId} {cs : Array Value} (hne : g ≠ b) : ∀ (vs : List Value) (o : Nat) {w : World}, Blk w g t cs → Blk (w.setCells b o vs) g t cs
  | [], _, _, h => h
  | v :: r, o, _, h => Blk.farCells hne r (o + 1) (h.far (p := ⟨b, o, none⟩) hne v)
theorem keep_cells {B b : Nat} {w0 : World} (hB : B ≤ b) : ∀ (vs : List Value) (o : Nat) {w : World}, Below B w0 w → Below B w0 (w.setCells b o vs)
  | [], _, _, h => h
  | v :: r, o, _, h => keep_cells hB r (o + 1) (h.setCell (p := ⟨b, o, none⟩) hB v)
/-- the numbers of a table's row -/
def rowI : Option (List Srt) → List Int
  | none => List.replicate 8 (-1)
  | some s => s.map Srt.num
def TLen (tb : Tbl) : Prop := ∀ k s, tb k = some s → s.length = 8
theorem rowI_len {o : Option (List Srt)} (h : ∀ s, o = some s → s.length = 8) : (rowI o).length = 8 := by
  cases o with
  | none => rfl
  | some s => show (s.map Srt.num).length = 8; rw [List.length_map]; exact h s rfl
/-- a block holds a table of N rows -/
def HoldsR (w : World) (b N : Nat) (tb : Tbl) : Prop := ∃ t bl, Blk w b t (IS bl) ∧ bl.length = N * 8 ∧ ∀ j, j < N → ∀ q, q < 8 → bl[j * 8 + q]? = (rowI (tb j))[q]?
section
variable {w w' : World} {b N : Nat} {tb : Tbl} {j : Nat}
theorem HoldsR.lt (h : HoldsR w b N tb) : b < w.heap.size := let ⟨_, _, h, _⟩ := h; h.lt
theorem HoldsR.below (h : HoldsR w b N tb) (hb : Below w.heap.size w w') : HoldsR w' b N tb := let ⟨t, bl, h, r⟩ := h; ⟨t, bl, h.below hb, r⟩
theorem HoldsR.belowB {B : Nat} (h : HoldsR w b N tb) (hb : Below B w w') (hB : b < B) : HoldsR w' b N tb := let ⟨t, bl, h, r⟩ := h; ⟨t, bl, h.belowB hb hB, r⟩
theorem HoldsR.range (h : HoldsR w b N tb) (hl : ∀ s, tb j = some s → s.length = 8) (hj : j < N) : w.rangeAt b (j * 8) ((rowI (tb j)).map (Value.int .i64)) := by
  obtain ⟨t, bl, hb, hlen, hr⟩ := h
  intro q v hv
  rw [List.getElem?_map] at hv
  obtain ⟨x, hx, rfl⟩ := Option.map_eq_some_iff.1 hv
  have hq : q < 8 := by have := (List.getElem?_eq_some_iff.1 hx).1; rw [rowI_len hl] at this; exact this
  exact hb.cell _ _ (IS_at ((hr j hj q hq).trans hx))
theorem HoldsR.there (h : HoldsR w b N tb) (hj : j < N) : w.there b (j * 8) 8 := by
  obtain ⟨t, bl, hb, hlen, -⟩ := h
  intro q hq
  obtain ⟨x, hx⟩ : ∃ x, bl[j * 8 + q]? = some x := ⟨_, List.getElem?_eq_getElem (by omega)⟩
  exact ⟨by rw [hb.cell _ _ (IS_at hx)]; rfl, hb.free _⟩
theorem HoldsR.put (h : HoldsR w b N tb) (hj : j < N) {s : List Srt} (hs : s.length = 8) : HoldsR (w.setCells b (j * 8) ((s.map Srt.num).map (Value.int .i64))) b N (tb.put j s) := by
  obtain ⟨t, bl, hb, hlen, hr⟩ := h
  refine ⟨t, _, hb.cells (s.map Srt.num) (j * 8), by rw [putL_len]; exact hlen, fun i hi q hq => ?_⟩
  have hsl : (s.map Srt.num).length = 8 := by rw [List.length_map]; exact hs
  rw [putL_at _ _ _ _ (by rw [hsl]; omega), hsl]
  by_cases e : i = j
  · subst e
    rw [if_pos (by omega), Tbl.put_self, Nat.add_sub_cancel_left]; rfl
  · rw [if_neg (by omega), Tbl.put_ne _ e]
    exact hr i hi q hq
theorem HoldsR.nil_ (h : HoldsR w b N tb) (hj : j < N) (hn : tb j = none) : w.cell? ⟨b, j * 8, none⟩ = some (.int .i64 (-1)) := by
  have := h.range (j := j) (fun s hs => by rw [hn] at hs; cases hs) hj 0 (.int .i64 (-1)) (by rw [hn]; rfl)
  exact this
theorem HoldsR.row (h : HoldsR w b N tb) (hj : j < N) {s : List Srt} (hs : tb j = some s) (hl : s.length = 8) : ∃ m : Int, 0 ≤ m ∧ w.cell? ⟨b, j * 8, none⟩ = some (.int .i64 m) := by
  obtain ⟨p, hp⟩ : ∃ p, s[0]? = some p := ⟨_, List.getElem?_eq_getElem (by omega)⟩
  refine ⟨p.num, by cases p <;> simp [Srt.num]; omega, ?_⟩
  exact h.range (j := j) (fun u hu => by rw [hs] at hu; cases hu; exact hl) hj 0 (.int .i64 p.num) (by rw [hs]; show ((s.map Srt.num).map (Value.int .i64))[0]? = _; rw [List.getElem?_map, List.getElem?_map, hp]; rfl)
end
section
variable {w : World} {a : Act} {b N j : Nat} {tb : Tbl} {op : Oper}
theorem exec_ldM {x : Operand} (ho : op.op = .load 86 x) (hx : a.eval x = .pointer (some ⟨b, j * 8, none⟩)) (h : HoldsR w b N tb) (hl : ∀ s, tb j = some s → s.length = 8) (hj : j < N) :
    (execOp a.eval op).run Try.prog w = .ok (.value (.agg (IS (rowI (tb j))))) w := by
  unfold execOp
  simp only [ho, hx, Sem.run_bind, run_loadAt_mid w b (j * 8) 86 _ _ (h.range hl hj) Try.underlying86 rfl (by rw [List.length_map, rowI_len hl]; exact infoIS), Result.andThen_ok, Sem.run_pure]
  rfl
theorem exec_ldMs {s : List Srt} {x : Operand} (ho : op.op = .load 86 x) (hx : a.eval x = .pointer (some ⟨b, j * 8, none⟩)) (h : HoldsR w b N tb) (hs : tb j = some s) (hl : s.length = 8) (hj : j < N) :
    (execOp a.eval op).run Try.prog w = .ok (.value (.agg (RS s))) w := by
  have := exec_ldM ho hx h (fun u hu => by rw [hs] at hu; cases hu; exact hl) hj
  rw [hs] at this
  exact this
theorem wp_stM {K : Act → World → Prop} {Q : Exit → Act → World → Prop} {x y : Operand} {s : List Srt} (ho : op.op = .store 86 x y)
    (hx : a.eval x = .pointer (some ⟨b, j * 8, none⟩)) (hy : a.eval y = .agg (RS s)) (h : HoldsR w b N tb) (hj : j < N) (hl : s.length = 8)
    (hk : K (a.put op.dst undef) (w.setCells b (j * 8) ((s.map Srt.num).map (Value.int .i64)))) : op.wp Try.prog a w K Q := by
  refine wp_store_mid 86 x y ho b (j * 8) (RS s) hx hy (by rw [RS_size hl]; exact h.there hj) (by rw [RS_size hl]; exact infoIS) (RS_one s) ?_
  exact hk
theorem quiet_ldM {C : World → Prop} {K : Act → Prop} {x : Operand} (ho : op.op = .load 86 x) (hx : a.eval x = .pointer (some ⟨b, j * 8, none⟩)) (h : ∀ w, C w → HoldsR w b N tb) (hl : ∀ s, tb j = some s → s.length = 8) (hj : j < N) (hk : K (a.put op.dst (.agg (IS (rowI (tb j)))))) :
    op.quiet Try.prog a C K := ⟨_, fun w hw => by unfold Oper.quietAt; rw [exec_ldM ho hx (h w hw) hl hj]; exact ⟨rfl, rfl⟩, hk⟩
end
theorem int_eq (d : Nat) (x y : Int) (w : World) : (Op.equalIn (d + 1) 3 (.int .i64 x) (.int .i64 y)).run Try.prog w = .ok (decide (x = y)) w := by
  rw [run_equalIn_int w d _ _ _ _ _ Try.underlying3]
  rfl
theorem ints_eq (x y : List Int) (hx : x.length = 8) (hy : y.length = 8) (w : World) : (Op.equalIn 10000 86 (.agg (IS x)) (.agg (IS y))).run Try.prog w = .ok (decide (x = y)) w := by
  obtain ⟨inf, hi⟩ : ∃ inf, Try.prog.info? 3 = some inf := Option.isSome_iff_exists.1 (by kernel_rfl)
  rw [run_equalIn_array w 9999 _ _ Try.underlying86 hi]
  have hc : Try.prog.cellsOf 3 = 1 := by kernel_rfl
  have hp : ∀ {u : List Int}, u.length = 8 → ∀ j, j < 8 → (part 3 (IS u) (j * 1)).run Try.prog w = .ok (.int .i64 (u[j]?.getD 0)) w := fun {u} hu j hj => by
    have ha : (isAgg 3).run Try.prog w = .ok false w := by
      unfold isAgg
      rw [Sem.run_bind, run_underlying Try.underlying3 w]
      simp
    have h1 : u[j]? = some (u[j]?.getD 0) := by rw [List.getElem?_eq_getElem (by omega)]; rfl
    have h2 := IS_at h1
    unfold part
    rw [Nat.mul_one]
    simp [Sem.run_bind, ha, h2]
  have := run_eqItems_all (P := Try.prog) (w := w) (d := 9999) (c := 1) (e := 3) (xs := IS x) (ys := IS y) (v := Value.int .i64) (a := fun j => x[j]?.getD 0) (b := fun j => y[j]?.getD 0) (fun p q => int_eq 9998 p q w) (List.range 8) (fun j hj => ⟨hp hx j (List.mem_range.1 hj), hp hy j (List.mem_range.1 hj)⟩)
  rw [list_all_eq hx hy] at this
  simpa [hc] using this
/-! ### joins of rows -/
def up (o : Option (List Srt)) (t : List Srt) : List Srt := match o with | none => t | some u => joinR u t
theorem up_len {o : Option (List Srt)} (h : ∀ s, o = some s → s.length = 8) {t : List Srt} (ht : t.length = 8) : (up o t).length = 8 := by
  cases o with
  | none => exact ht
  | some u => show (joinR u t).length = 8; rw [joinR_len]; exact h u rfl
theorem num_ne (p : Srt) : p.num ≠ -1 := by cases p <;> simp [Srt.num]; omega
theorem join_row {o : Option (List Srt)} (h : ∀ s, o = some s → s.length = 8) {t : List Srt} (ht : t.length = 8) : joinI (rowI o) (t.map Srt.num) = (up o t).map Srt.num := by
  apply List.ext_getElem?
  intro j
  unfold joinI
  rw [List.getElem?_mapIdx]
  by_cases hj : j < 8
  · obtain ⟨q, hq⟩ : ∃ q, t[j]? = some q := ⟨_, List.getElem?_eq_getElem (by omega)⟩
    have hq' : (t.map Srt.num)[j]? = some q.num := by rw [List.getElem?_map, hq]; rfl
    cases o with
    | none =>
      have hr : (rowI none)[j]? = some (-1) := by
        show (List.replicate 8 (-1 : Int))[j]? = _
        rw [List.getElem?_replicate, if_pos hj]
      rw [hr, hq']
      show some (if (-1 : Int) = -1 then _ else _) = (t.map Srt.num)[j]?
      rw [if_pos rfl, hq']; rfl
    | some u =>
      obtain ⟨p, hp⟩ : ∃ p, u[j]? = some p := ⟨_, List.getElem?_eq_getElem (by rw [h u rfl]; exact hj)⟩
      have hr : (rowI (some u))[j]? = some p.num := by show (u.map Srt.num)[j]? = _; rw [List.getElem?_map, hp]; rfl
      rw [hr, hq']
      show some (if p.num = -1 then _ else _) = ((joinR u t).map Srt.num)[j]?
      rw [if_neg (num_ne p), List.getElem?_map, joinR_at hp hq]
      by_cases e : p = q
      · subst e; simp
      · have e' : q.num ≠ p.num := fun h => e (Srt.num_inj h).symm
        have := num_ne q
        rw [if_pos ⟨fun h => this (Option.some.inj h), fun h => e' (Option.some.inj h)⟩, if_neg e]; rfl
  · have h1 : (rowI o)[j]? = none := List.getElem?_eq_none (by rw [rowI_len h]; omega)
    have h2 : ((up o t).map Srt.num)[j]? = none := List.getElem?_eq_none (by rw [List.length_map, up_len h ht]; omega)
    rw [h1, h2]; rfl
theorem map_num_inj {s t : List Srt} (h : s.map Srt.num = t.map Srt.num) : s = t := List.map_inj_right (fun _ _ e => Srt.num_inj e) |>.1 h
theorem row_same {o : Option (List Srt)} (h : ∀ s, o = some s → s.length = 8) {t : List Srt} (ht : t.length = 8) : (up o t).map Srt.num = rowI o ↔ o = some (up o t) := by
  cases o with
  | none =>
    refine ⟨fun e => ?_, fun e => by cases e⟩
    obtain ⟨q, hq⟩ : ∃ q, t[0]? = some q := ⟨_, List.getElem?_eq_getElem (by omega)⟩
    have h0 : (t.map Srt.num)[0]? = some (-1) := congrArg (fun l : List Int => l[0]?) e
    rw [List.getElem?_map, hq] at h0
    exact absurd (Option.some.inj h0) (num_ne q)
  | some u => exact ⟨fun e => by rw [map_num_inj e], fun e => by rw [← Option.some.inj e]; rfl⟩
/-! ### the reference's step -/
def aftR (s : List Srt) (x : NI) (i : Nat) : List Srt × Bool :=
  afterR s x.op x.a.toNat x.b x.c.toNat i (s[x.a.toNat]?.getD .wd) (s[x.b.toNat]?.getD .wd) (s[x.c.toNat]?.getD .wd)
theorem pair_res (op : Int) (ho : 3 ≤ op ∧ op ≤ 8) (b c : Srt) : (pairS op b c).2 = (resS op b c).2 ∧ ((resS op b c).2 = true → pairS op b c = resS op b c) := by
  unfold pairS resS
  have h2 : op ≠ 2 := by omega
  rw [if_neg h2]
  by_cases h3 : op = 3
  · rw [if_pos h3, if_pos h3]
    cases b <;> cases c <;> simp [Srt.kind, Srt.isRaw]
  rw [if_neg h3, if_neg h3]
  by_cases h4 : op = 4
  · rw [if_pos h4, if_pos h4]
    cases b <;> cases c <;> simp [Srt.kind, Srt.isRaw]
  rw [if_neg h4, if_neg h4]
  by_cases h8 : op = 8
  · rw [if_pos h8, if_neg (by omega), if_pos h8]
    cases b <;> cases c <;> simp [Srt.kind]
  · rw [if_neg h8, if_pos (by omega)]
    cases b <;> cases c <;> simp [Srt.kind]
theorem ref_res (op : Int) (b c : Srt) : (refS op b c).2 = (resS op b c).2 ∧ ((resS op b c).2 = true → refS op b c = resS op b c) := by
  unfold refS
  by_cases h2 : op = 2
  · subst h2
    rw [if_pos rfl]
    unfold resS
    rw [if_pos rfl]
    cases b <;> simp [Srt.kind]
  rw [if_neg h2]
  by_cases h3 : 3 ≤ op ∧ op ≤ 8
  · rw [if_pos h3]; exact pair_res op h3 b c
  rw [if_neg h3]
  unfold resS
  rw [if_neg h2, if_neg (show ¬ op = 3 by omega), if_neg (show ¬ op = 4 by omega), if_neg (show ¬ (op = 5 ∨ op = 6 ∨ op = 7) by omega), if_neg (show ¬ op = 8 by omega)]
  by_cases h11 : op = 11
  · rw [if_pos h11, if_pos h11]
    cases b <;> simp [Srt.kind, Srt.isRaw]
  · rw [if_neg h11, if_neg h11]; exact ⟨rfl, fun _ => rfl⟩
theorem res_else {op : Int} (h : takesBI op = false) (b b' c : Srt) : resS op b c = resS op b' c := by
  unfold takesBI at h
  have h' : ¬ ((2 ≤ op ∧ op ≤ 8) ∨ op = 11 ∨ op = 12) := of_decide_eq_false h
  unfold resS
  have e2 : ¬ op = 2 := by omega
  have e3 : ¬ op = 3 := by omega
  have e4 : ¬ op = 4 := by omega
  have e5 : ¬ (op = 5 ∨ op = 6 ∨ op = 7) := by omega
  have e8 : ¬ op = 8 := by omega
  have e11 : ¬ op = 11 := by omega
  simp only [if_neg e2, if_neg e3, if_neg e4, if_neg e5, if_neg e8, if_neg e11]
theorem aftR_ok {s : List Srt} {x : NI} (hf : formedI x = true) (hr : regsI x = true) (i : Nat) : (aftR s x i).2 = (aft s x i).2 ∧ ((aft s x i).2 = true → aftR s x i = aft s x i) := by
  obtain ⟨-, -, hb, -⟩ := (formedI_iff x).1 hf
  unfold aftR aft
  by_cases ht : takesBI x.op = true
  · have hb8 : x.b < 8 := by unfold regsI at hr; rw [if_pos ht] at hr; exact of_decide_eq_true hr
    rw [show x.b.toNat % 8 = x.b.toNat by omega]
    generalize s[x.a.toNat]?.getD .wd = pa
    generalize s[x.b.toNat]?.getD .wd = pb
    generalize s[x.c.toNat]?.getD .wd = pc
    unfold afterR afterP
    split
    · exact ⟨rfl, fun _ => rfl⟩
    split
    · cases pa <;> simp [Srt.kind]
    split
    · cases pa <;> cases pb <;> simp [Srt.kind, Srt.isRaw]
    split
    · exact ⟨rfl, fun _ => rfl⟩
    split
    · exact ⟨rfl, fun _ => rfl⟩
    · refine ⟨(ref_res _ _ _).1, fun h => ?_⟩
      rw [(ref_res _ _ _).2 h]
  · have ht' : takesBI x.op = false := by simpa using ht
    have h12 : x.op ≠ 12 := fun e => by rw [e] at ht'; cases ht'
    generalize s[x.a.toNat]?.getD .wd = pa
    generalize s[x.b.toNat]?.getD .wd = pb
    generalize s[x.b.toNat % 8]?.getD .wd = pb'
    generalize s[x.c.toNat]?.getD .wd = pc
    unfold afterR afterP
    split
    · exact ⟨rfl, fun _ => rfl⟩
    split
    · cases pa <;> simp [Srt.kind]
    (try rw [if_neg h12, if_neg h12])
    split
    · exact ⟨rfl, fun _ => rfl⟩
    split
    · exact ⟨rfl, fun _ => rfl⟩
    · rw [res_else ht' pb' pb pc]
      refine ⟨(ref_res _ _ _).1, fun h => ?_⟩
      rw [(ref_res _ _ _).2 h]
theorem aftR_len {s : List Srt} (hs : s.length = 8) (x : NI) (i : Nat) : (aftR s x i).1.length = 8 := by
  unfold aftR afterR calledS
  split
  · exact hs
  split
  · exact hs
  split
  · exact hs
  split
  · simp [hs]
  split
  · simp [hs]
  · simp [hs]
theorem rafter_val {s t : List Srt} {ok : Bool} (hs : s.length = 8) (x : NI) (hx : formedI x = true) (hr : regsI x = true) (i : Nat) (hi : i ≤ 1000) (h : aftR s x i = (t, ok)) (w : World) :
    Calls Try.prog 39 #[.agg (RS s), insV x, .int .i64 i] w fun e w' => e = .returned (.tuple #[.agg (RS t), .bool ok]) ∧ Below w.heap.size w w' := by
  obtain ⟨op, a, b, c, k⟩ := x
  obtain ⟨ho, ha, hb, hc⟩ := (formedI_iff _).1 hx
  dsimp only at ho ha hb hc
  obtain ⟨an, rfl⟩ : ∃ an : Nat, a = an := ⟨_, (Int.toNat_of_nonneg ha.1).symm⟩
  obtain ⟨bn, rfl⟩ : ∃ an : Nat, b = an := ⟨_, (Int.toNat_of_nonneg hb.1).symm⟩
  obtain ⟨cn, rfl⟩ : ∃ an : Nat, c = an := ⟨_, (Int.toNat_of_nonneg hc.1).symm⟩
  have at_ : ∀ j, j < 8 → s[j]? = some (s[j]?.getD .wd) := fun j hj => by rw [List.getElem?_eq_getElem (by omega)]; rfl
  have := rafter_any s hs op an bn cn (by omega) (by omega) (by omega) k i hi _ (s[bn]?.getD .wd) _ (at_ an (by omega)) (fun ht => at_ bn (by unfold regsI at hr; rw [if_pos ht] at hr; have := of_decide_eq_true hr; dsimp only at this; omega)) (at_ cn (by omega)) w
  have h2 : afterR s op an (bn : Int) cn i (s[an]?.getD .wd) (s[bn]?.getD .wd) (s[cn]?.getD .wd) = (t, ok) := by
    rw [← h]; unfold aftR; simp only [Int.toNat_natCast]
  rw [h2] at this
  exact this
/-! ### what holds of the reference's table -/
section
variable {l : List NI} {n : Nat} {tb : Tbl} {i k : Nat} {x : NI} {s : List Srt}
theorem SInv.tlen (h : SInv l n tb) : TLen tb := fun k s hs => (h.len k s hs).1
theorem SInv.put_up (h : SInv l n tb) (hf : formedI x = true) (hr : regsI x = true) (hx : l[i]? = some x) (hs : tb i = some s) (hk : (k : Int) ∈ waysL x.op x.k i) (hkn : k ≤ n) : SInv l n (tb.put k (up (tb k) (aftR s x i).1)) := by
  have hsl := (h.len i s hs).1
  have hul : ∀ u, tb k = some u → u.length = 8 := fun u hu => (h.len k u hu).1
  refine ⟨fun j t ht => ?_, fun X hX => ?_, ?_⟩
  · by_cases e : j = k
    · subst e; rw [Tbl.put_self] at ht; cases ht; exact ⟨up_len hul (aftR_len hsl x i), hkn⟩
    · rw [Tbl.put_ne _ e] at ht; exact h.len j t ht
  · have hok := (h.low X hX).ok hX hf hx hs
    rw [(aftR_ok hf hr i).2 hok]
    cases hu : tb k with
    | none => exact (h.low X hX).new hX hf hx hs hk
    | some u => exact (h.low X hX).join hX hf hx hs hk hu
  · obtain ⟨z, hz, hl⟩ := h.zero
    by_cases e : 0 = k
    · subst e
      rw [hz]
      exact ⟨_, Tbl.put_self _ _ _, hl.trans (le_joinR (hul z hz) (aftR_len hsl x i))⟩
    · exact ⟨z, by rw [Tbl.put_ne _ e]; exact hz, hl⟩
theorem Tbl.meas_up (hl : TLen tb) {t : List Srt} (ht : t.length = 8) (hne : ¬ tb k = some (Go.Proofs.Ytpmdgmgcbminaaa.up (tb k) t)) (hk : k ≤ n) : (tb.put k (Go.Proofs.Ytpmdgmgcbminaaa.up (tb k) t)).meas n < tb.meas n := by
  cases hu : tb k with
  | none => exact tb.meas_new hu ht hk
  | some u =>
    rw [hu] at hne
    exact tb.meas_join hu (hl k u hu) ht (fun e => hne (by show some u = some (joinR u t); rw [e])) hk
def StabR (l : List NI) (tb : Tbl) (i : Nat) : Prop := ∀ x s, l[i]? = some x → tb i = some s → ∀ k : Nat, (k : Int) ∈ waysL x.op x.k i → tb k = some (up (tb k) (aftR s x i).1)
theorem StabR.none (h : tb i = .none) : StabR l tb i := fun _ s _ hs => by rw [h] at hs; cases hs
theorem SInv.closedR (h : SInv l n tb) (hl : l.length = n) (hf : ∀ x ∈ l, formedI x = true ∧ regsI x = true) (hst : ∀ i, i < n → StabR l tb i) (hok : ∀ i x s, l[i]? = some x → tb i = some s → (aft s x i).2 = true) : Safe l := by
  refine ⟨tb, fun k s hs => (h.len k s hs).1, h.zero, hok, fun i x s k hx hs hk => ?_⟩
  have hxm := hf x (List.mem_of_getElem? hx)
  have hst1 := hst i (by have := (List.getElem?_eq_some_iff.1 hx).1; omega) x s hx hs k hk
  rw [(aftR_ok hxm.1 hxm.2 i).2 (hok i x s hx hs)] at hst1
  have htl := aft_len (h.len i s hs).1 x i
  cases hu : tb k with
  | none =>
    rw [hu] at hst1
    cases hst1
  | some u =>
    rw [hu] at hst1
    have e : u = joinR u (aft s x i).1 := Option.some.inj hst1
    exact ⟨u, rfl, joinR_same (h.len k u hu).1 htl e.symm⟩
end
end Go.Proofs.Ytpmdgmgcbminaaa

/- The reference's Safe. -/
import Derived.Test.YtpmdgmgcbminaaaSafe13
import Derived.Laws.MakeOwn
namespace Go.Proofs.Ytpmdgmgcbminaaa
open Go.ChangeShapes Go.WideShapes Go.RowKit Go.Maps Words

theorem used_val (g : Int) (A : Option Addr) (n c : Nat) (x : NI) (w : World) (v : Bool) (hn : n ≤ 1000000) (hf : formedI x = true) (hv : soundI n x = v) :
    Calls Try.prog 38 #[codeV g A n c, insV x] w fun e w' => e = .returned (.bool v) ∧ Below w.heap.size w w' := by
  obtain ⟨op, a, b, c', k⟩ := x
  have hB : Below w.heap.size w ((w.alloc (.cells #[.int .i64 g, .slice A n c] 27)).alloc (.cells #[.int .i64 op, .int .i64 a, .int .i64 b, .int .i64 c', .int .u64 (U k)] 58)) := keep_alloc (code_alloc w _ g A n c) _
  have B0 := (Blk.new w #[.int .i64 g, .slice A n c] 27).alloc (.cells #[.int .i64 op, .int .i64 a, .int .i64 b, .int .i64 c', .int .u64 (U k)] 58)
  have p0 := B0.cell 0 _ rfl
  have p1 := B0.cell 1 _ rfl
  clear B0
  go_enter Try.func38, Try.ntmps38
  go_wp2_with ((go_at_call 34; refine (sound_val g A n c ⟨op, a, b, c', k⟩ _ v hn hf hv).mono ?_; rintro e w2 ⟨rfl, hb2⟩))
  go_ret
  exact ⟨rfl, keep_below hb2 hB⟩
theorem made_zero (N : Nat) : madeCells #[.int .i64 0, .int .i64 0, .int .i64 0, .int .i64 0, .int .i64 0, .int .i64 0, .int .i64 0, .int .i64 0] N = IS (List.replicate N 0) := by
  apply Array.ext
  · rw [size_madeCells]; unfold IS; simp
  · intro i h1 h2
    rw [size_madeCells] at h1
    have h3 : (IS (List.replicate N 0))[i]? = some (.int .i64 0) := IS_at (by rw [List.getElem?_replicate, if_pos h1])
    rw [Array.getElem?_eq_getElem h2] at h3
    rw [Option.some.inj h3]
    simp only [madeCells, Array.getElem_map, Array.getElem_range]
    have h8 : i % 8 < 8 := Nat.mod_lt _ (by omega)
    show (#[Value.int .i64 0, .int .i64 0, .int .i64 0, .int .i64 0, .int .i64 0, .int .i64 0, .int .i64 0, .int .i64 0] : Array Value)[i % 8]! = _
    generalize i % 8 = j at h8
    match j, h8 with
    | 0, _ | 1, _ | 2, _ | 3, _ | 4, _ | 5, _ | 6, _ | 7, _ => rfl
theorem make_sorts (n : Nat) (hn : n ≤ 1000) (w : World) : (Instr.makeSlice 84 (.int .i64 ((n : Int) + 1)) (.int .i64 ((n : Int) + 1))).run Try.prog w =
    .ok (.slice (some ⟨w.heap.size, 0, none⟩) (n + 1) (n + 1)) (w.alloc (.cells (IS (List.replicate ((n + 1) * 8) 0)) 86)) := by
  have hi3 : (Try.prog.info? 86).map (fun i => (i.zero, i.size, i.bytes)) = some (some (.agg #[.int .i64 0, .int .i64 0, .int .i64 0, .int .i64 0, .int .i64 0, .int .i64 0, .int .i64 0, .int .i64 0]), 8, 64) := by kernel_rfl
  obtain ⟨inf, hi, hx⟩ := Option.map_eq_some_iff.1 hi3
  simp only [Prod.mk.injEq] at hx
  obtain ⟨hz, hs, hb⟩ := hx
  have := run_make (P := Try.prog) w 84 86 inf _ Try.underlying84 hi hz .i64 .i64 ((n + 1 : Nat) : Int) ((n + 1 : Nat) : Int) (by omega) (Int.le_refl _) (by rw [hb]; omega) (by omega)
  rw [hs, Int.toNat_natCast] at this
  rw [show ((n : Int) + 1) = ((n + 1 : Nat) : Int) by omega, this]
  show Result.ok _ (w.alloc (.cells (madeCells #[.int .i64 0, .int .i64 0, .int .i64 0, .int .i64 0, .int .i64 0, .int .i64 0, .int .i64 0, .int .i64 0] ((n + 1) * 8)) _)) = _
  rw [made_zero]
theorem gb_setCell (w : World) (b o : Nat) (u : Value) : w.grownBy (w.setCell ⟨b, o, none⟩ u) (some b) :=
  ⟨rfl, rfl, rfl, by simp, fun i _ hne => Below.heap_setCell w ⟨b, o, none⟩ u i (fun e => hne (by rw [e]))⟩
theorem gb_setCells {w0 : World} (b : Nat) : ∀ (vs : List Value) (o : Nat) {w : World}, w0.grownBy w (some b) → w0.grownBy (w.setCells b o vs) (some b)
  | [], _, _, h => h
  | v :: r, o, w, h => gb_setCells b r (o + 1) (h.andThen (row' := some b) (gb_setCell w b o v) (fun _ e => Or.inr e))
/-- numbers come back in a block of the call's own -/
def RetF (w : World) (l : List Int) (e : Ending) (w' : World) : Prop :=
  ∃ A c, e = .returned (.slice A l.length c) ∧ Reads w' w'.heap.size 1 A l.length c (l.flatMap intCells) ∧ Below w.heap.size w w' ∧ ∀ b off, A = some ⟨b, off, none⟩ → w.heap.size ≤ b
set_option linter.unusedSimpArgs false in
set_option maxHeartbeats 4000000 in
theorem ways_fresh (op a b c : Int) (k : BitVec 64) (at_ : Nat) (hat : at_ ≤ 1000) (hk : op = 9 ∨ op = 10 → U k ≤ 1000) (w : World) :
    Calls Try.prog 40 #[.agg #[.int .i64 op, .int .i64 a, .int .i64 b, .int .i64 c, .int .u64 (U k)], .int .i64 at_] w (RetF w (waysL op k at_)) := by
  have hu0 := U_nonneg k
  have hB : Below w.heap.size w (w.alloc (.cells #[.int .i64 op, .int .i64 a, .int .i64 b, .int .i64 c, .int .u64 (U k)] 58)) := keep_alloc (Below.refl _ _) _
  have h1 : IntKind.i64.wrap ((at_ : Int) + 1) = (at_ : Int) + 1 := IntWalk.i64_in _ (by omega)
  by_cases h17 : op = 17
  · subst h17
    go_enter Try.func40, Try.ntmps40
    go_wp2_with fail
    go_ret
    exact ⟨none, 0, rfl, Reads.nil, hB, fun _ _ e => by cases e⟩
  by_cases h9 : op = 9
  · subst h9
    have hk1 := hk (Or.inl rfl)
    have h2 : IntKind.i64.wrap (U k) = U k := IntWalk.i64_in _ (by omega)
    go_enter Try.func40, Try.ntmps40
    go_wp2_with fail
    go_ret
    exact ⟨_, _, rfl, Reads.freshAt _ #[.int .i64 (U k)] _ 1 1 _ (w.heap.size + 1) (by simp) rfl rfl (by decide), keep_alloc hB _, fun _ _ e => by cases e; omega⟩
  by_cases h10 : op = 10
  · subst h10
    have hk1 := hk (Or.inr rfl)
    have h2 : IntKind.i64.wrap (U k) = U k := IntWalk.i64_in _ (by omega)
    go_enter Try.func40, Try.ntmps40
    go_wp2_with fail
    go_ret
    exact ⟨_, _, rfl, Reads.freshAt _ #[.int .i64 ((at_ : Int) + 1), .int .i64 (U k)] _ 1 2 _ (w.heap.size + 1) (by simp) rfl rfl (by decide), keep_alloc hB _, fun _ _ e => by cases e; omega⟩
  have HV := Lib.hid (show waysL op k at_ = [(at_ : Int) + 1] from by unfold waysL; rw [if_neg h17, if_neg h9, if_neg h10])
  have t17 : (op == 17) = false := beq_false_of_ne h17
  have t9 : (op == 9) = false := beq_false_of_ne h9
  have t10 : (op == 10) = false := beq_false_of_ne h10
  clear h17 h9 h10
  go_enter Try.func40, Try.ntmps40
  go_wp2_with fail
  go_ret
  rw [HV.out]
  exact ⟨_, _, rfl, Reads.freshAt _ #[.int .i64 ((at_ : Int) + 1)] _ 1 1 _ (w.heap.size + 1) (by simp) rfl rfl (by decide), keep_alloc hB _, fun _ _ e => by cases e; omega⟩
theorem gb_cell {w w1 : World} {b : Nat} {a : Addr} {v : Value} (h : w.grownBy w1 (some b)) (hv : w.cell? a = some v) (hne : a.block ≠ b) : w1.cell? a = some v := by
  have hb := h.block a.block (World.block_lt_of_cell? w a hv) (by simpa using hne)
  have e : w1.cell? a = w.cell? a := by unfold World.cell?; rw [hb]
  exact e.trans hv
theorem rjoin_val {o : Option (List Srt)} (h : ∀ s, o = some s → s.length = 8) {t : List Srt} (ht : t.length = 8) (w : World) :
    Calls Try.prog 41 #[.agg (IS (rowI o)), .agg (RS t)] w fun e w' => e = .returned (.agg (RS (up o t))) ∧ Below w.heap.size w w' := by
  have := rjoin_any (rowI o) (t.map Srt.num) (rowI_len h) (nums_len ht) w
  rw [join_row h ht] at this
  exact this
/-- whatever is closed lies above a list of registers at all of these indexes -/
def Above (l : List NI) (L : List Int) (t : List Srt) : Prop := ∀ X, Closed l X → ∀ k : Nat, (k : Int) ∈ L → ∃ z, X k = some z ∧ SLe t z
theorem SInv.above {l : List NI} {n i : Nat} {tb : Tbl} {x : NI} {s : List Srt} (h : SInv l n tb) (hf : formedI x = true) (hr : regsI x = true) (hx : l[i]? = some x) (hs : tb i = some s) : Above l (waysL x.op x.k i) (aftR s x i).1 := by
  intro X hX k hk
  have hok := (h.low X hX).ok hX hf hx hs
  rw [(aftR_ok hf hr i).2 hok]
  exact (h.low X hX).way hX hf hx hs hk
theorem SInv.upA {l : List NI} {n k : Nat} {tb : Tbl} {L : List Int} {t : List Srt} (h : SInv l n tb) (hA : Above l L t) (ht : t.length = 8) (hk : (k : Int) ∈ L) (hkn : k ≤ n) : SInv l n (tb.put k (up (tb k) t)) := by
  have hul : ∀ u, tb k = some u → u.length = 8 := fun u hu => (h.len k u hu).1
  refine ⟨fun j t ht2 => ?_, fun X hX => ?_, ?_⟩
  · by_cases e : j = k
    · subst e; rw [Tbl.put_self] at ht2; cases ht2; exact ⟨up_len hul ht, hkn⟩
    · rw [Tbl.put_ne _ e] at ht2; exact h.len j t ht2
  · obtain ⟨z, hz, hl⟩ := hA X hX k hk
    cases hu : tb k with
    | none => exact (h.low X hX).put hz hl
    | some u =>
      obtain ⟨z', hz', hl'⟩ := h.low X hX k u hu
      obtain rfl : z = z' := Option.some.inj (hz.symm.trans hz')
      exact (h.low X hX).put hz (joinR_le hl' hl)
  · obtain ⟨z, hz, hl⟩ := h.zero
    by_cases e : 0 = k
    · subst e
      rw [hz]
      exact ⟨_, Tbl.put_self _ _ _, hl.trans (le_joinR (hul z hz) ht)⟩
    · exact ⟨z, by rw [Tbl.put_ne _ e]; exact hz, hl⟩
/-- the table while it is laid out: rows from 1 on are unreached up to place m -/
def Laid (m : Nat) (bl : List Int) : Prop := ∀ p v, bl[p]? = some v → v = if 8 ≤ p ∧ p < m then -1 else 0
theorem Laid.start (N : Nat) : Laid 8 (List.replicate N 0) := fun p v h => by
  rw [List.getElem?_replicate] at h
  split at h
  · rw [if_neg (by omega)]; exact (Option.some.inj h).symm
  · cases h
theorem Laid.set {m : Nat} {bl : List Int} (h : Laid m bl) (h8 : 8 ≤ m) : Laid (m + 1) (bl.set m (-1)) := fun p v hv => by
  by_cases e : p = m
  · subst e
    rw [if_pos (by omega)]
    rw [List.getElem?_set_self (by have := (List.getElem?_eq_some_iff.1 hv).1; rwa [List.length_set] at this)] at hv
    exact (Option.some.inj hv).symm
  · rw [List.getElem?_set_ne (fun h => e h.symm)] at hv
    rw [h p v hv]
    by_cases h1 : 8 ≤ p ∧ p < m
    · rw [if_pos h1, if_pos (by omega)]
    · rw [if_neg h1, if_neg (by omega)]
theorem Laid.done {w : World} {b n : Nat} {t : TypeId} {bl : List Int} (h : Laid ((n + 1) * 8) bl) (hb : Blk w b t (IS bl)) (hl : bl.length = (n + 1) * 8) : HoldsR w b (n + 1) (Tbl.put (fun _ => none) 0 sort0) := by
  refine ⟨t, bl, hb, hl, fun j hj q hq => ?_⟩
  obtain ⟨v, hv⟩ : ∃ v, bl[j * 8 + q]? = some v := ⟨_, List.getElem?_eq_getElem (by omega)⟩
  rw [hv, h _ _ hv]
  by_cases e : j = 0
  · subst e
    rw [Tbl.put_self, if_neg (by omega)]
    show _ = (sort0.map Srt.num)[q]?
    unfold sort0
    rw [List.map_replicate, List.getElem?_replicate, if_pos hq]; rfl
  · rw [Tbl.put_ne _ e, if_pos (by omega)]
    show _ = (List.replicate 8 (-1 : Int))[q]?
    rw [List.getElem?_replicate, if_pos hq]

set_option linter.unusedSimpArgs false in
set_option maxRecDepth 100000 in
set_option maxHeartbeats 8000000 in
theorem rsafe_any (g : Int) (A : Option Addr) (n c : Nat) (l : List NI) (w : World) (h : Reads w w.heap.size 5 A n c (l.flatMap insCells)) :
    Calls Try.prog 25 #[codeV g A n c] w fun e w' => e = .returned (.bool (safeC g l)) ∧ Below w.heap.size w w' := by
  have hlen := h.length insCells_len (by omega)
  have hW := code_alloc w 27 g A n c
  have B0 := Blk.new w #[.int .i64 g, .slice A n c] 27
  have HL := Lib.hid hlen
  have hh := h.belowU hW
  clear hlen
  by_cases hf' : formedC g l = false
  · have HV := Lib.hid (safeC_bad hf')
    go_enter Try.func25, Try.ntmps25
    go_wp2_with ((go_at_call 30; refine (rformed_any g A n c l _ hh).mono ?_; rw [hf']; rintro e w' ⟨rfl, hb⟩))
    go_ret
    exact ⟨ret_nb HV.out.symm, keep_below hb hW⟩
  have hf : formedC g l = true := by simpa using hf'
  clear hf'
  have hn := (formedC_parts hf).2.1
  have hall := (formedC_parts hf).2.2
  have HF := Lib.hid hf
  have HA := Lib.hid hall
  clear hall hf
  go_enter Try.func25, Try.ntmps25
  go_wp2_with fail
  refine (rformed_any g A n c l _ hh).mono ?_
  rw [HF.out]
  rintro e w1 ⟨rfl, hb1⟩
  have hW1 := keep_below hb1 hW
  have B1 := B0.below hb1
  have hh1 := hh.belowU hb1
  have p1 : w1.cell? ⟨w.heap.size, 1, none⟩ = some (.slice A n c) := B1.cell 1 _ rfl
  have hlenw : w.heap.size < w1.heap.size := B1.lt
  rw [HL.out] at hn
  clear hh h hb1 B0 hW
  go_wp2_with fail
  clear p1
  go_loopw [3] (fun x wq => ∃ k : Nat, k ≤ n ∧ x = .int .i64 k ∧ Below w1.heap.size w1 wq ∧ l.all (soundI n) = (l.drop k).all (soundI n)) (fun x _ => n - (intOf x).toNat)
  case atStart => exact ⟨0, Nat.zero_le _, rfl, Below.refl _ _, rfl⟩
  case round =>
    obtain ⟨k, hk, rfl, hb, hal⟩ := hrel
    have HAL := Lib.hid hal
    have Br := B1.below hb
    have q0 : wr.cell? ⟨w.heap.size, 0, none⟩ = some (.int .i64 g) := Br.cell 0 _ rfl
    have q1 : wr.cell? ⟨w.heap.size, 1, none⟩ = some (.slice A n c) := Br.cell 1 _ rfl
    have hBr := keep_below hb hW1
    clear hal
    by_cases hlt : k < n
    · obtain ⟨b0, off, x, rfl, hbb, hx, hc⟩ := (hh1.belowU hb).elem insCells_len (by omega) hlt
      have HX := Lib.hid hx
      have hxf := HA.out x (List.mem_of_getElem? hx)
      have HXF := Lib.hid hxf
      obtain ⟨op, a, b, c', kk⟩ := x
      have d0 : wr.cell? ⟨b0, off + k * 5, none⟩ = some (.int .i64 op) := hc 0 _ rfl
      have d1 := hc 1 _ rfl
      have d2 := hc 2 _ rfl
      have d3 := hc 3 _ rfl
      have d4 := hc 4 _ rfl
      dsimp only at d1 d2 d3 d4
      have hk0 : (0 : Int) ≤ (k : Int) := by omega
      have hk1 : (k : Int) < (n : Int) := by omega
      clear hx hxf hc
      go_upto_region 6 with fail
      have L0 := Lag.cell q0
      have L1 := Lag.cell q1
      have D0 := Lag.cell d0
      have D1 := Lag.cell d1
      have D2 := Lag.cell d2
      have D3 := Lag.cell d3
      have D4 := Lag.cell d4
      clear q0 q1 d0 d1 d2 d3 d4
      cases hs : soundI n ⟨op, a, b, c', kk⟩ with
      | false =>
        have HS := Lib.hid hs
        have HV := Lib.hid (safeC_no (g := g) HL.out (all_no HAL.out HX.out hs))
        clear hs
        refine wp_region_lag (by kernel_rfl) (by kernel_rfl) ?_
        repeat (go_big_quiet_step ((go_at_call 38; exact Calls.lag (used_val g _ n c ⟨op, a, b, c', kk⟩ _ _ (by omega) HXF.out HS.out))))
        refine wpQuiet_nil ?_
        rintro _ ⟨⟨w2, hb2⟩, rfl⟩
        go_wp2_with fail
        go_ret
        exact ⟨ret_nb HV.out.symm, keep_below hb2 hBr⟩
      | true =>
        have HS := Lib.hid hs
        clear hs
        refine wp_region_lag (by kernel_rfl) (by kernel_rfl) ?_
        repeat (go_big_quiet_step ((go_at_call 38; exact Calls.lag (used_val g _ n c ⟨op, a, b, c', kk⟩ _ _ (by omega) HXF.out HS.out))))
        refine wpQuiet_nil ?_
        rintro _ ⟨⟨w2, hb2⟩, rfl⟩
        go_wp2_with fail
        go_roundw
        case rel => exact ⟨k + 1, by omega, by go_num, keep_below hb2 hb, all_yes HAL.out HX.out HS.out⟩
        case measure => simp [intOf]; omega
    have hkn : k = n := by omega
    subst hkn
    have HS := Lib.hid (all_end HAL.out (by rw [HL.out]; omega))
    have hhr := hh1.belowU hb
    clear hb hh1 hW1 B1 HAL hk hlt hlenw
    have hmk := make_sorts k (by omega)
    have hk1 : IntKind.i64.wrap ((k : Int) + 1) = (k : Int) + 1 := IntWalk.i64_in _ (by omega)
    go_wp2_with fail
    have Bb := Blk.new wr (IS (List.replicate ((k + 1) * 8) 0)) 86
    have hR0 : ∀ wq, (wr.alloc (.cells (IS (List.replicate ((k + 1) * 8) 0)) 86)).grownBy wq (some wr.heap.size) → Reads wq wq.heap.size 5 A k c (l.flatMap insCells) ∧ Below w.heap.size w wq ∧ Blk wq w.heap.size 27 #[.int .i64 g, .slice A k c] := fun wq hg => by
      have hb := (keep_alloc (Below.refl wr.heap.size wr) (.cells (IS (List.replicate ((k + 1) * 8) 0)) 86)).grown hg (by simp) (fun q hq => by cases hq; exact Nat.le_refl _)
      exact ⟨hhr.belowU hb, keep_below hb hBr, Br.below hb⟩
    obtain ⟨w2, hw2⟩ : ∃ w2, wr.alloc (.cells (IS (List.replicate ((k + 1) * 8) 0)) 86) = w2 := ⟨_, rfl⟩
    obtain ⟨bm, hbm⟩ : ∃ bm, wr.heap.size = bm := ⟨_, rfl⟩
    have hwb : w.heap.size < bm := by rw [← hbm]; exact Br.lt
    rw [hw2, hbm] at Bb hR0
    rw [hw2]
    rw [hbm]
    have HR0 := Lib.hid hR0
    clear hw2 hbm hmk hR0 hhr hBr Br q0 q1 hk1
    go_loopw [5] (fun x wq => ∃ (i : Nat) (bl : List Int), 1 ≤ i ∧ i ≤ k + 1 ∧ x = .int .i64 i ∧ Laid (i * 8) bl ∧ bl.length = (k + 1) * 8 ∧ Blk wq bm 86 (IS bl) ∧ w2.grownBy wq (some bm)) (fun x _ => k + 2 - (intOf x).toNat)
    case atStart => exact ⟨1, _, Nat.le_refl _, by omega, rfl, Laid.start _, by simp, Bb, ⟨rfl, rfl, rfl, Nat.le_refl _, fun _ _ _ => rfl⟩⟩
    case round =>
      clear Bb
      obtain ⟨i, bl, hi1, hi2, rfl, hL, hbl, Bb, hgr⟩ := hrel
      have q1 : wr.cell? ⟨w.heap.size, 1, none⟩ = some (.slice A k c) := (HR0.out _ hgr).2.2.cell 1 _ rfl
      by_cases hik : i ≤ k
      · have hd : decide ((i : Int) ≤ (k : Int)) = true := decide_eq_true (by omega)
        have hd2 : decide (i ≤ k) = true := decide_eq_true hik
        have HL2 := Lib.hid hL
        clear hL
        go_wp2_with fail
        clear q1 hd hd2
        go_loopw [6] (fun x wq => ∃ (q : Nat) (bl : List Int), q ≤ 8 ∧ x = .int .i64 q ∧ Laid (i * 8 + q) bl ∧ bl.length = (k + 1) * 8 ∧ Blk wq bm 86 (IS bl) ∧ w2.grownBy wq (some bm)) (fun x _ => 8 - (intOf x).toNat)
        case atStart => exact ⟨0, _, by omega, rfl, HL2.out, hbl, Bb, hgr⟩
        case round =>
          clear HL2 hbl Bb hgr bl
          obtain ⟨q, bl, hq, rfl, hL, hbl, Bb, hgr⟩ := hrel
          have HL2 := Lib.hid hL
          clear hL
          by_cases hq8 : q < 8
          · have hd : decide ((q : Int) < 8) = true := decide_eq_true (by omega)
            have hd2 : decide (q < 8) = true := decide_eq_true hq8
            obtain ⟨v, hv⟩ : ∃ v, bl[i * 8 + q]? = some v := ⟨_, List.getElem?_eq_getElem (by omega)⟩
            have c0 := Bb.cell _ _ (IS_at hv)
            have e0 := Bb.free
            have k0 : (0 : Int) ≤ (i : Int) := by omega
            have k1 : (i : Int) < (k : Int) + 1 := by omega
            have k2 : (0 : Int) ≤ (q : Int) := by omega
            have k3 : (q : Int) < 8 := by omega
            have HBL := Lib.hid hbl
            have HBB := Lib.hid Bb
            have HGR := Lib.hid hgr
            clear hv hbl Bb hgr
            go_wp2_with fail
            go_roundw
            case rel => exact ⟨q + 1, bl.set (i * 8 + q) (-1), by omega, by go_num, HL2.out.set (by omega), by rw [List.length_set]; exact HBL.out, IS_set bl _ _ ▸ HBB.out.set (i * 8 + q) (.int .i64 (-1)), HGR.out.andThen (row' := some bm) (gb_setCell _ _ _ _) (fun _ e => Or.inr e)⟩
            case measure => simp [intOf]; omega
          · have hd : decide ((q : Int) < 8) = false := decide_eq_false (by omega)
            have hd2 : decide (q < 8) = false := decide_eq_false hq8
            have hw : IntKind.i64.wrap ((i : Int) + 1) = (i : Int) + 1 := IntWalk.i64_in _ (by omega)
            go_wp2_with fail
            go_roundw
            case rel => exact ⟨i + 1, bl, by omega, by omega, by go_num, (show i * 8 + q = (i + 1) * 8 by omega) ▸ HL2.out, hbl, Bb, hgr⟩
            case measure => simp [intOf]; omega
      · have hd : decide ((i : Int) ≤ (k : Int)) = false := decide_eq_false (by omega)
        have hd2 : decide (i ≤ k) = false := decide_eq_false hik
        have hR := ((show i = k + 1 by omega) ▸ hL).done Bb hbl
        clear hL Bb hbl hi1 hi2
        go_wp2_with fail
        go_loopg [7] (2 * (Tbl.put (fun _ => none) 0 sort0).meas k + 1) (fun G s7 wq => ∃ (tb : Tbl) (ag : Bool), s7 = .bool ag ∧ Aside (SInv l k tb ∧ 2 * tb.meas k + (if ag then 1 else 0) ≤ G ∧ (ag = false → ∀ j, j < k → StabR l tb j)) ∧ HoldsR wq bm (k + 1) tb ∧ w2.grownBy wq (some bm))
        case atStart => exact ⟨_, true, rfl, ⟨SInv.start l k, Nat.le_refl _, fun h => by cases h⟩, hR, hgr⟩
        case round =>
          clear hR hgr
          obtain ⟨tb, ag, rfl, HI, hown, hgr⟩ := hrel
          cases ag with
          | false =>
            have HST := Lib.hid (HI.out.2.2 rfl)
            have HSI := Lib.hid HI.out.1
            clear HI
            go_wp2_with fail
            go_loopg [14] k (fun G7 s14 wq => ∃ i : Nat, i + G7 = k ∧ s14 = .int .i64 i ∧ Aside (∀ j, j < i → ∀ x s, l[j]? = some x → tb j = some s → (aft s x j).2 = true) ∧ HoldsR wq bm (k + 1) tb ∧ w2.grownBy wq (some bm))
            case atStart => exact ⟨0, by omega, rfl, (fun j hj => by omega), hown, hgr⟩
            case round =>
              clear hown hgr
              obtain ⟨i, hik2, rfl, HOK, hown, hgr⟩ := hrel
              have HIK := Lib.hid hik2
              have q1 : wr.cell? ⟨w.heap.size, 1, none⟩ = some (.slice A k c) := (HR0.out _ hgr).2.2.cell 1 _ rfl
              have HBW := Lib.hid (HR0.out _ hgr).2.1
              have HFR2 := Lib.hid (fun x (hx : x ∈ l) => (⟨HA.out x hx, by have h := List.all_eq_true.1 HS.out x hx; unfold soundI at h; rw [Bool.and_eq_true] at h; exact h.2⟩ : formedI x = true ∧ regsI x = true))
              cases gk with
              | zero =>
                have hd : decide ((i : Int) < (k : Int)) = false := decide_eq_false (by omega)
                have hd2 : decide (i < k) = false := decide_eq_false (by omega)
                have HV := Lib.hid (safeC_yes HF.out HL.out HS.out (HSI.out.closedR HL.out HFR2.out HST.out (fun j x s hx hs => HOK.out j (by have := (List.getElem?_eq_some_iff.1 hx).1; have := HIK.out; have := HL.out; omega) x s hx hs)))
                clear hik2
                go_wp2_with fail
                go_ret
                exact ⟨ret_nb HV.out.symm, HBW.out⟩
              | succ g7 =>
                have hlt : i < k := by omega
                obtain ⟨b0, off, x, rfl, hbb, hx, hc⟩ := (HR0.out _ hgr).1.elem insCells_len (by omega) hlt
                have HX := Lib.hid hx
                have hxf := HFR2.out x (List.mem_of_getElem? hx)
                have HXF := Lib.hid hxf.1
                have HXR := Lib.hid hxf.2
                obtain ⟨op, a, b, c', kk⟩ := x
                have d0 : wr.cell? ⟨b0, off + i * 5, none⟩ = some (.int .i64 op) := hc 0 _ rfl
                have d1 := hc 1 _ rfl
                have d2 := hc 2 _ rfl
                have d3 := hc 3 _ rfl
                have d4 := hc 4 _ rfl
                dsimp only at d1 d2 d3 d4
                have hk0 : (0 : Int) ≤ (i : Int) := by omega
                have hk1 : (i : Int) < (k : Int) := by omega
                have hk11 : (i : Int) < (k : Int) + 1 := by omega
                have hk2 : decide ((i : Int) < (k : Int)) = true := decide_eq_true hk1
                have hk3 : decide (i < k) = true := decide_eq_true hlt
                have hw : IntKind.i64.wrap ((i : Int) + 1) = (i : Int) + 1 := IntWalk.i64_in _ (by omega)
                clear hx hxf hc hik2
                cases htb : tb i with
                | none =>
                  have c0 := hown.nil_ (by omega) htb
                  have HN := Lib.hid htb
                  clear htb
                  go_wp2_with fail
                  go_roundg g7
                  case measure => omega
                  case rel =>
                    refine ⟨i + 1, by have := HIK.out; omega, by go_num, (fun j hj x s hx hs => ?_), hown, hgr⟩
                    by_cases e : j < i
                    · exact HOK.out j e x s hx hs
                    · obtain rfl : j = i := by omega
                      have := HN.out
                      rw [this] at hs
                      cases hs
                | some s =>
                  have hsl := HSI.out.tlen i s htb
                  obtain ⟨m0, hm0, c0⟩ := hown.row (by omega) htb hsl
                  have hmb : (m0 != -1) = true := by simp; omega
                  have HTB := Lib.hid htb
                  obtain ⟨t, ok, hao⟩ : ∃ t ok, aftR s ⟨op, a, b, c', kk⟩ i = (t, ok) := ⟨_, _, rfl⟩
                  have htl : t.length = 8 := by have := aftR_len hsl ⟨op, a, b, c', kk⟩ i; rw [hao] at this; exact this
                  have HAO := Lib.hid hao
                  have HOK2 := Lib.hid (show (aft s ⟨op, a, b, c', kk⟩ i).2 = ok by have := (aftR_ok (s := s) HXF.out HXR.out i).1; rw [hao] at this; exact this.symm)
                  clear htb hao
                  go_upto_region 35 with fail
                  clear c0 hmb hm0
                  go_cut [15, 16] from 135 to 148 (fun s15 s16 wx => ∃ h9, s15 = .pointer (some ⟨h9, 0, none⟩) ∧ s16 = .bool ok ∧ h9 ≠ bm ∧ Blk wx h9 86 (RS t) ∧ Below wr.heap.size wr wx)
                  case first => as_aux_lemma =>
                    refine wp_region_noPanic ?_
                    refine wp_region_held_drew (S := fun w' => Below wr.heap.size wr w') (by kernel_rfl) (Below.refl _ _).drew (fun hHeld => ?_)
                    refine wpAnyH_take (i := 0) (v := ?_) rfl (by kernel_rfl) (by kernel_rfl) (by kernel_rfl) (fun _ _ _ h => h) (Or.inl ⟨by rfl, ?_⟩) (by assumption) ?_
                    rotate_left
                    · intro wq hSw; clear hSw; go_simp; (try with_reducible rfl)
                    (try simp only [List.getElem_toArray, List.getElem_cons_zero, List.getElem_cons_succ, Act.put, List.setIfInBounds_toArray, List.set_cons_zero, List.set_cons_succ])
                    refine wpAnyH_take (i := 1) (v := ?_) rfl (by kernel_rfl) (by kernel_rfl) (by kernel_rfl) (fun _ _ _ h => h) (Or.inl ⟨by rfl, ?_⟩) (by assumption) ?_
                    rotate_left
                    · intro wq hSw; clear hSw; go_simp; (try with_reducible rfl)
                    (try simp only [List.getElem_toArray, List.getElem_cons_zero, List.getElem_cons_succ, Act.put, List.setIfInBounds_toArray, List.set_cons_zero, List.set_cons_succ])
                    refine wpAnyH_take (i := 2) (v := ?_) rfl (by kernel_rfl) (by kernel_rfl) (by kernel_rfl) (fun _ _ _ h => h) (Or.inl ⟨by rfl, ?_⟩) (by assumption) ?_
                    rotate_left
                    · intro wq hSw; clear hSw; go_simp; (try with_reducible rfl)
                    (try simp only [List.getElem_toArray, List.getElem_cons_zero, List.getElem_cons_succ, Act.put, List.setIfInBounds_toArray, List.set_cons_zero, List.set_cons_succ])
                    refine wpAnyH_take (i := 3) (v := .agg (RS s)) rfl (by kernel_rfl) (by kernel_rfl) (by kernel_rfl) (fun _ _ _ h => h) (Or.inl ⟨by rfl, fun wq hSw => exec_ldMs rfl rfl (hown.below hSw) HTB.out hsl (by omega)⟩) (by assumption) ?_
                    (try simp only [List.getElem_toArray, List.getElem_cons_zero, List.getElem_cons_succ, Act.put, List.setIfInBounds_toArray, List.set_cons_zero, List.set_cons_succ])
                    refine wpAnyH_take (i := 4) (v := ?_) rfl (by kernel_rfl) (by kernel_rfl) (by kernel_rfl) (fun _ _ _ h => h) (Or.inl ⟨by rfl, ?_⟩) (by assumption) ?_
                    rotate_left
                    · intro wq hSw; clear hSw; go_simp; (try with_reducible rfl)
                    (try simp only [List.getElem_toArray, List.getElem_cons_zero, List.getElem_cons_succ, Act.put, List.setIfInBounds_toArray, List.set_cons_zero, List.set_cons_succ])
                    refine wpAnyH_take (i := 5) (v := ?_) rfl (by kernel_rfl) (by kernel_rfl) (by kernel_rfl) (fun _ _ _ h => h) (Or.inl ⟨by rfl, ?_⟩) (by assumption) ?_
                    rotate_left
                    · intro wq hSw; have zq1 := keep_cell hSw q1; clear hSw; go_simp; (try with_reducible rfl)
                    (try simp only [List.getElem_toArray, List.getElem_cons_zero, List.getElem_cons_succ, Act.put, List.setIfInBounds_toArray, List.set_cons_zero, List.set_cons_succ])
                    refine wpAnyH_take (i := 6) (v := ?_) rfl (by kernel_rfl) (by kernel_rfl) (by kernel_rfl) (fun _ _ _ h => h) (Or.inl ⟨by rfl, ?_⟩) (by assumption) ?_
                    rotate_left
                    · intro wq hSw; clear hSw; go_simp; (try with_reducible rfl)
                    (try simp only [List.getElem_toArray, List.getElem_cons_zero, List.getElem_cons_succ, Act.put, List.setIfInBounds_toArray, List.set_cons_zero, List.set_cons_succ])
                    refine wpAnyH_take (i := 7) (v := ?_) rfl (by kernel_rfl) (by kernel_rfl) (by kernel_rfl) (fun _ _ _ h => h) (Or.inl ⟨by rfl, ?_⟩) (by assumption) ?_
                    rotate_left
                    · intro wq hSw; clear hSw; go_simp; (try with_reducible rfl)
                    (try simp only [List.getElem_toArray, List.getElem_cons_zero, List.getElem_cons_succ, Act.put, List.setIfInBounds_toArray, List.set_cons_zero, List.set_cons_succ])
                    refine wpAnyH_take (i := 8) (v := ?_) rfl (by kernel_rfl) (by kernel_rfl) (by kernel_rfl) (fun _ _ _ h => h) (Or.inl ⟨by rfl, ?_⟩) (by assumption) ?_
                    rotate_left
                    · intro wq hSw; have zd0 := keep_cell hSw d0; have zd1 := keep_cell hSw d1; have zd2 := keep_cell hSw d2; have zd3 := keep_cell hSw d3; have zd4 := keep_cell hSw d4; clear hSw; go_simp; (try with_reducible rfl)
                    (try simp only [List.getElem_toArray, List.getElem_cons_zero, List.getElem_cons_succ, Act.put, List.setIfInBounds_toArray, List.set_cons_zero, List.set_cons_succ])
                    refine wpAnyH_take (i := 9) (v := ?_) rfl (by kernel_rfl) (by kernel_rfl) (by kernel_rfl) (fun _ _ _ h => h) (Or.inl ⟨by rfl, ?_⟩) (by assumption) ?_
                    rotate_left
                    · intro wq hSw; clear hSw; go_simp; (try with_reducible rfl)
                    (try simp only [List.getElem_toArray, List.getElem_cons_zero, List.getElem_cons_succ, Act.put, List.setIfInBounds_toArray, List.set_cons_zero, List.set_cons_succ])
                    refine wpAnyH_ready (rs := [10, 14]) (by kernel_rfl) (by simp) ?_
                    refine AllReadyH.cons (i := 10) (by rfl) ?_ (AllReadyH.cons (i := 14) (by rfl) ?_ AllReadyH.nil)
                    · skip
                      intro K' hK
                      simp only [List.getElem_toArray, List.getElem_cons_zero, List.getElem_cons_succ]
                      refine if_yes (by kernel_rfl) ?_
                      go_big_op
                      (go_at_call 39; refine (rafter_val hsl ⟨op, a, b, c', kk⟩ HXF.out HXR.out i (by omega) HAO.out _).mono ?_; rintro e w1 ⟨rfl, hb1⟩)
                      refine hK.out _ _ ?_ (fun hHeld2 => ?_)
                      · exact keep_below hb1 hHeld
                      clear hK K' hHeld
                      have hHeld := hHeld2
                      clear hHeld2
                      (try simp only [List.getElem_toArray, List.getElem_cons_zero, List.getElem_cons_succ, Act.put, List.setIfInBounds_toArray, List.set_cons_zero, List.set_cons_succ])
                      refine wpAnyH_take (i := 11) (v := ?_) rfl (by kernel_rfl) (by kernel_rfl) (by kernel_rfl) (fun _ _ _ h => h) (Or.inl ⟨by rfl, ?_⟩) (by assumption) ?_
                      rotate_left
                      · intro wq hSw; clear hSw; go_simp; (try with_reducible rfl)
                      (try simp only [List.getElem_toArray, List.getElem_cons_zero, List.getElem_cons_succ, Act.put, List.setIfInBounds_toArray, List.set_cons_zero, List.set_cons_succ])
                      refine wpAnyH_take (i := 12) (v := ?_) rfl (by kernel_rfl) (by kernel_rfl) (by kernel_rfl) (fun _ _ _ h => h) (Or.inl ⟨by rfl, ?_⟩) (by assumption) ?_
                      rotate_left
                      · intro wq hSw; clear hSw; go_simp; (try with_reducible rfl)
                      (try simp only [List.getElem_toArray, List.getElem_cons_zero, List.getElem_cons_succ, Act.put, List.setIfInBounds_toArray, List.set_cons_zero, List.set_cons_succ])
                      refine wpAnyH_take (i := 13) (v := ?_) rfl (by kernel_rfl) (by kernel_rfl) (by kernel_rfl) (fun _ _ _ h => h) (Or.inl ⟨by rfl, ?_⟩) (by assumption) ?_
                      rotate_left
                      · intro wq hSw; clear hSw; go_simp; (try with_reducible rfl)
                      (try simp only [List.getElem_toArray, List.getElem_cons_zero, List.getElem_cons_succ, Act.put, List.setIfInBounds_toArray, List.set_cons_zero, List.set_cons_succ])
                      refine wpAnyH_ready (rs := [14]) (by kernel_rfl) (by simp) ?_
                      refine AllReadyH.cons (i := 14) (by rfl) ?_ AllReadyH.nil
                      have hge := hHeld.size
                      have BN := Blk.new w1 #[.int .i64 0, .int .i64 0, .int .i64 0, .int .i64 0, .int .i64 0, .int .i64 0, .int .i64 0, .int .i64 0] 86
                      intro K' hK
                      simp only [List.getElem_toArray, List.getElem_cons_zero, List.getElem_cons_succ]
                      refine if_yes (by kernel_rfl) ?_
                      go_big_op
                      refine hK.out _ _ ?_ (fun hHeld2 => ?_)
                      · exact keep_alloc hHeld _
                      clear hK K' hHeld
                      have hHeld := hHeld2
                      clear hHeld2
                      (try simp only [List.getElem_toArray, List.getElem_cons_zero, List.getElem_cons_succ, Act.put, List.setIfInBounds_toArray, List.set_cons_zero, List.set_cons_succ])
                      refine wpAnyH_ready (rs := [15]) (by kernel_rfl) (by simp) ?_
                      refine AllReadyH.cons (i := 15) (by rfl) ?_ AllReadyH.nil
                      intro K' hK
                      refine if_yes (by kernel_rfl) ?_
                      refine wp_stS rfl rfl rfl BN rfl htl ?_
                      refine hK.out _ _ (keep_row hHeld hge _) (fun hHeld2 => ?_)
                      clear hK K' hHeld
                      have hHeld := hHeld2
                      clear hHeld2
                      (try simp only [List.getElem_toArray, List.getElem_cons_zero, List.getElem_cons_succ, Act.put, List.setIfInBounds_toArray, List.set_cons_zero, List.set_cons_succ])
                      refine wpAnyH_take (i := 16) (v := ?_) rfl (by kernel_rfl) (by kernel_rfl) (by kernel_rfl) (fun _ _ _ h => h) (Or.inl ⟨by rfl, ?_⟩) (by assumption) ?_
                      rotate_left
                      · intro wq hSw; clear hSw; go_simp; (try with_reducible rfl)
                      (try simp only [List.getElem_toArray, List.getElem_cons_zero, List.getElem_cons_succ, Act.put, List.setIfInBounds_toArray, List.set_cons_zero, List.set_cons_succ])
                      refine wpAnyH_done (by kernel_rfl) ?_ _
                      refine NoPanic.normal ?_
                      go_wp2_with fail
                      go_meet
                      exact ⟨_, rfl, rfl, by have := hown.lt; omega, BN.row _, hHeld⟩
                    · skip
                      have BN0 := Blk.newAt (World.drew _) #[.int .i64 0, .int .i64 0, .int .i64 0, .int .i64 0, .int .i64 0, .int .i64 0, .int .i64 0, .int .i64 0] 86 wr.heap.size rfl
                      have hge : wr.heap.size ≤ wr.heap.size := Nat.le_refl _
                      intro K' hK
                      simp only [List.getElem_toArray, List.getElem_cons_zero, List.getElem_cons_succ]
                      refine if_yes (by kernel_rfl) ?_
                      go_big_op
                      refine hK.out _ _ ?_ (fun hHeld2 => ?_)
                      · exact keep_alloc hHeld _
                      clear hK K' hHeld
                      have hHeld := hHeld2
                      clear hHeld2
                      (try simp only [List.getElem_toArray, List.getElem_cons_zero, List.getElem_cons_succ, Act.put, List.setIfInBounds_toArray, List.set_cons_zero, List.set_cons_succ])
                      refine wpAnyH_ready (rs := [10]) (by kernel_rfl) (by simp) ?_
                      refine AllReadyH.cons (i := 10) (by rfl) ?_ AllReadyH.nil
                      intro K' hK
                      simp only [List.getElem_toArray, List.getElem_cons_zero, List.getElem_cons_succ]
                      refine if_yes (by kernel_rfl) ?_
                      go_big_op
                      (go_at_call 39; refine (rafter_val hsl ⟨op, a, b, c', kk⟩ HXF.out HXR.out i (by omega) HAO.out _).mono ?_; rintro e w1 ⟨rfl, hb1⟩)
                      refine hK.out _ _ ?_ (fun hHeld2 => ?_)
                      · exact keep_below hb1 hHeld
                      clear hK K' hHeld
                      have hHeld := hHeld2
                      clear hHeld2
                      (try simp only [List.getElem_toArray, List.getElem_cons_zero, List.getElem_cons_succ, Act.put, List.setIfInBounds_toArray, List.set_cons_zero, List.set_cons_succ])
                      have BN := BN0.below hb1
                      refine wpAnyH_take (i := 11) (v := ?_) rfl (by kernel_rfl) (by kernel_rfl) (by kernel_rfl) (fun _ _ _ h => h) (Or.inl ⟨by rfl, ?_⟩) (by assumption) ?_
                      rotate_left
                      · intro wq hSw; clear hSw; go_simp; (try with_reducible rfl)
                      (try simp only [List.getElem_toArray, List.getElem_cons_zero, List.getElem_cons_succ, Act.put, List.setIfInBounds_toArray, List.set_cons_zero, List.set_cons_succ])
                      refine wpAnyH_take (i := 12) (v := ?_) rfl (by kernel_rfl) (by kernel_rfl) (by kernel_rfl) (fun _ _ _ h => h) (Or.inl ⟨by rfl, ?_⟩) (by assumption) ?_
                      rotate_left
                      · intro wq hSw; clear hSw; go_simp; (try with_reducible rfl)
                      (try simp only [List.getElem_toArray, List.getElem_cons_zero, List.getElem_cons_succ, Act.put, List.setIfInBounds_toArray, List.set_cons_zero, List.set_cons_succ])
                      refine wpAnyH_take (i := 13) (v := ?_) rfl (by kernel_rfl) (by kernel_rfl) (by kernel_rfl) (fun _ _ _ h => h) (Or.inl ⟨by rfl, ?_⟩) (by assumption) ?_
                      rotate_left
                      · intro wq hSw; clear hSw; go_simp; (try with_reducible rfl)
                      (try simp only [List.getElem_toArray, List.getElem_cons_zero, List.getElem_cons_succ, Act.put, List.setIfInBounds_toArray, List.set_cons_zero, List.set_cons_succ])
                      refine wpAnyH_ready (rs := [15]) (by kernel_rfl) (by simp) ?_
                      refine AllReadyH.cons (i := 15) (by rfl) ?_ AllReadyH.nil
                      intro K' hK
                      refine if_yes (by kernel_rfl) ?_
                      refine wp_stS rfl rfl rfl BN rfl htl ?_
                      refine hK.out _ _ (keep_row hHeld hge _) (fun hHeld2 => ?_)
                      clear hK K' hHeld
                      have hHeld := hHeld2
                      clear hHeld2
                      (try simp only [List.getElem_toArray, List.getElem_cons_zero, List.getElem_cons_succ, Act.put, List.setIfInBounds_toArray, List.set_cons_zero, List.set_cons_succ])
                      refine wpAnyH_take (i := 16) (v := ?_) rfl (by kernel_rfl) (by kernel_rfl) (by kernel_rfl) (fun _ _ _ h => h) (Or.inl ⟨by rfl, ?_⟩) (by assumption) ?_
                      rotate_left
                      · intro wq hSw; clear hSw; go_simp; (try with_reducible rfl)
                      (try simp only [List.getElem_toArray, List.getElem_cons_zero, List.getElem_cons_succ, Act.put, List.setIfInBounds_toArray, List.set_cons_zero, List.set_cons_succ])
                      refine wpAnyH_done (by kernel_rfl) ?_ _
                      refine NoPanic.normal ?_
                      go_wp2_with fail
                      go_meet
                      exact ⟨_, rfl, rfl, by have := hown.lt; omega, BN.row _, hHeld⟩
                  case rest =>
                    obtain ⟨h9, rfl, rfl, -, -, hbc⟩ := hcut
                    have hownc := hown.below hbc
                    have hgrc := gb_below hgr hbc
                    have HBC := Lib.hid hbc
                    clear q1 d0 d1 d2 d3 d4 hown hgr hbc
                    cases ok with
                    | false =>
                      have HV := Lib.hid (safeC_uns (g := g) (HSI.out.bad HXF.out HX.out HTB.out HOK2.out))
                      have HB := Lib.hid (HR0.out _ hgrc).2.1
                      go_wp2_with fail
                      go_ret
                      exact ⟨ret_nb HV.out.symm, HB.out⟩
                    | true =>
                      go_wp2_with fail
                      go_roundg g7
                      case measure => omega
                      case rel =>
                        refine ⟨i + 1, by have := HIK.out; omega, by go_num, (fun j hj x s' hx hs => ?_), hownc, hgrc⟩
                        by_cases e : j < i
                        · exact HOK.out j e x s' hx hs
                        · obtain rfl : j = i := by omega
                          obtain rfl : _ = x := Option.some.inj (HX.out.symm.trans hx)
                          obtain rfl : s = s' := Option.some.inj (HTB.out.symm.trans hs)
                          exact HOK2.out
          | true =>
            go_wp2_with fail
            go_loopg [7, 8] k (fun G5 s7 s8 wq => ∃ (i : Nat) (tb2 : Tbl) (ag : Bool), i + G5 = k ∧ s8 = .int .i64 i ∧ s7 = .bool ag ∧ Aside (SInv l k tb2 ∧ (ag = false → tb2 = tb ∧ ∀ j, j < i → StabR l tb j) ∧ (ag = true → tb2.meas k < tb.meas k)) ∧ HoldsR wq bm (k + 1) tb2 ∧ w2.grownBy wq (some bm))
            case atStart => exact ⟨0, tb, false, by omega, rfl, rfl, ⟨HI.out.1, fun _ => ⟨rfl, fun j hj => by omega⟩, fun h => by cases h⟩, hown, hgr⟩
            case round =>
              clear hown hgr
              obtain ⟨i, tb2, ag, hik2, rfl, rfl, HI2, hown, hgr⟩ := hrel
              have HIK := Lib.hid hik2
              have q1 : wr.cell? ⟨w.heap.size, 1, none⟩ = some (.slice A k c) := (HR0.out _ hgr).2.2.cell 1 _ rfl
              cases gk with
              | zero =>
                have hd : decide ((i : Int) < (k : Int)) = false := decide_eq_false (by omega)
                have hd2 : decide (i < k) = false := decide_eq_false (by omega)
                clear hik2
                go_wp2_with fail
                go_roundg (2 * tb2.meas k + (if ag then 1 else 0))
                case measure =>
                  have h1 := HI.out.2.1
                  have h2 := HI2.out.2
                  cases ag with
                  | false => rw [(h2.1 rfl).1]; simp at h1 ⊢; omega
                  | true => have := h2.2 rfl; simp at h1 ⊢; omega
                case rel => exact ⟨tb2, ag, rfl, ⟨HI2.out.1, Nat.le_refl _, fun h j hj => by obtain ⟨e, hs⟩ := HI2.out.2.1 h; rw [e]; exact hs j (by have := HIK.out; omega)⟩, hown, hgr⟩
              | succ g5 =>
                have hlt : i < k := by omega
                obtain ⟨b0, off, x, rfl, hbb, hx, hc⟩ := (HR0.out _ hgr).1.elem insCells_len (by omega) hlt
                have HX := Lib.hid hx
                have hxf := HA.out x (List.mem_of_getElem? hx)
                have HXF := Lib.hid hxf
                have hxs := List.all_eq_true.1 HS.out x (List.mem_of_getElem? hx)
                have HXS := Lib.hid hxs
                have HXR := Lib.hid (show regsI x = true by unfold soundI at hxs; rw [Bool.and_eq_true] at hxs; exact hxs.2)
                obtain ⟨op, a, b, c', kk⟩ := x
                have d0 : wr.cell? ⟨b0, off + i * 5, none⟩ = some (.int .i64 op) := hc 0 _ rfl
                have d1 := hc 1 _ rfl
                have d2 := hc 2 _ rfl
                have d3 := hc 3 _ rfl
                have d4 := hc 4 _ rfl
                dsimp only at d1 d2 d3 d4
                have hk0 : (0 : Int) ≤ (i : Int) := by omega
                have hk1 : (i : Int) < (k : Int) := by omega
                have hk11 : (i : Int) < (k : Int) + 1 := by omega
                have hk2 : decide ((i : Int) < (k : Int)) = true := decide_eq_true hk1
                have hk3 : decide (i < k) = true := decide_eq_true hlt
                have hTl : ∀ s, tb2 i = some s → s.length = 8 := fun s hs => HI2.out.1.tlen i s hs
                have hw : IntKind.i64.wrap ((i : Int) + 1) = (i : Int) + 1 := IntWalk.i64_in _ (by omega)
                clear hx hxf hxs hc hik2
                cases htb : tb2 i with
                | none =>
                  have c0 := hown.nil_ (by omega) htb
                  have HN := Lib.hid htb
                  clear htb hTl
                  go_wp2_with fail
                  go_roundg g5
                  case measure => omega
                  case rel => exact ⟨i + 1, tb2, ag, by have := HIK.out; omega, by go_num, rfl, ⟨HI2.out.1, fun h => ⟨(HI2.out.2.1 h).1, fun j hj => if e : j < i then (HI2.out.2.1 h).2 j e else (show j = i by omega) ▸ StabR.none ((HI2.out.2.1 h).1 ▸ HN.out)⟩, HI2.out.2.2⟩, hown, hgr⟩
                | some s =>
                  have hsl := hTl s htb
                  obtain ⟨m0, hm0, c0⟩ := hown.row (by omega) htb hsl
                  have hmb : (m0 == -1) = false := beq_false_of_ne (by omega)
                  have HTB := Lib.hid htb
                  obtain ⟨t, ok, hao⟩ : ∃ t ok, aftR s ⟨op, a, b, c', kk⟩ i = (t, ok) := ⟨_, _, rfl⟩
                  have htl : t.length = 8 := by have := aftR_len hsl ⟨op, a, b, c', kk⟩ i; rw [hao] at this; exact this
                  have HAO := Lib.hid hao
                  clear htb hao
                  go_upto_region 23 with fail
                  clear c0 hmb hm0
                  go_cut [9, 10] from 70 to 83 (fun s9 s10 wx => ∃ h9, s9 = .pointer (some ⟨h9, 0, none⟩) ∧ s10 = .bool ok ∧ h9 ≠ bm ∧ Blk wx h9 86 (RS t) ∧ Below wr.heap.size wr wx)
                  case first => as_aux_lemma =>
                    refine wp_region_noPanic ?_
                    refine wp_region_held_drew (S := fun w' => Below wr.heap.size wr w') (by kernel_rfl) (Below.refl _ _).drew (fun hHeld => ?_)
                    refine wpAnyH_take (i := 0) (v := ?_) rfl (by kernel_rfl) (by kernel_rfl) (by kernel_rfl) (fun _ _ _ h => h) (Or.inl ⟨by rfl, ?_⟩) (by assumption) ?_
                    rotate_left
                    · intro wq hSw; clear hSw; go_simp; (try with_reducible rfl)
                    (try simp only [List.getElem_toArray, List.getElem_cons_zero, List.getElem_cons_succ, Act.put, List.setIfInBounds_toArray, List.set_cons_zero, List.set_cons_succ])
                    refine wpAnyH_take (i := 1) (v := ?_) rfl (by kernel_rfl) (by kernel_rfl) (by kernel_rfl) (fun _ _ _ h => h) (Or.inl ⟨by rfl, ?_⟩) (by assumption) ?_
                    rotate_left
                    · intro wq hSw; clear hSw; go_simp; (try with_reducible rfl)
                    (try simp only [List.getElem_toArray, List.getElem_cons_zero, List.getElem_cons_succ, Act.put, List.setIfInBounds_toArray, List.set_cons_zero, List.set_cons_succ])
                    refine wpAnyH_take (i := 2) (v := ?_) rfl (by kernel_rfl) (by kernel_rfl) (by kernel_rfl) (fun _ _ _ h => h) (Or.inl ⟨by rfl, ?_⟩) (by assumption) ?_
                    rotate_left
                    · intro wq hSw; clear hSw; go_simp; (try with_reducible rfl)
                    (try simp only [List.getElem_toArray, List.getElem_cons_zero, List.getElem_cons_succ, Act.put, List.setIfInBounds_toArray, List.set_cons_zero, List.set_cons_succ])
                    refine wpAnyH_take (i := 3) (v := .agg (RS s)) rfl (by kernel_rfl) (by kernel_rfl) (by kernel_rfl) (fun _ _ _ h => h) (Or.inl ⟨by rfl, fun wq hSw => exec_ldMs rfl rfl (hown.below hSw) HTB.out hsl (by omega)⟩) (by assumption) ?_
                    (try simp only [List.getElem_toArray, List.getElem_cons_zero, List.getElem_cons_succ, Act.put, List.setIfInBounds_toArray, List.set_cons_zero, List.set_cons_succ])
                    refine wpAnyH_take (i := 4) (v := ?_) rfl (by kernel_rfl) (by kernel_rfl) (by kernel_rfl) (fun _ _ _ h => h) (Or.inl ⟨by rfl, ?_⟩) (by assumption) ?_
                    rotate_left
                    · intro wq hSw; clear hSw; go_simp; (try with_reducible rfl)
                    (try simp only [List.getElem_toArray, List.getElem_cons_zero, List.getElem_cons_succ, Act.put, List.setIfInBounds_toArray, List.set_cons_zero, List.set_cons_succ])
                    refine wpAnyH_take (i := 5) (v := ?_) rfl (by kernel_rfl) (by kernel_rfl) (by kernel_rfl) (fun _ _ _ h => h) (Or.inl ⟨by rfl, ?_⟩) (by assumption) ?_
                    rotate_left
                    · intro wq hSw; have zq1 := keep_cell hSw q1; clear hSw; go_simp; (try with_reducible rfl)
                    (try simp only [List.getElem_toArray, List.getElem_cons_zero, List.getElem_cons_succ, Act.put, List.setIfInBounds_toArray, List.set_cons_zero, List.set_cons_succ])
                    refine wpAnyH_take (i := 6) (v := ?_) rfl (by kernel_rfl) (by kernel_rfl) (by kernel_rfl) (fun _ _ _ h => h) (Or.inl ⟨by rfl, ?_⟩) (by assumption) ?_
                    rotate_left
                    · intro wq hSw; clear hSw; go_simp; (try with_reducible rfl)
                    (try simp only [List.getElem_toArray, List.getElem_cons_zero, List.getElem_cons_succ, Act.put, List.setIfInBounds_toArray, List.set_cons_zero, List.set_cons_succ])
                    refine wpAnyH_take (i := 7) (v := ?_) rfl (by kernel_rfl) (by kernel_rfl) (by kernel_rfl) (fun _ _ _ h => h) (Or.inl ⟨by rfl, ?_⟩) (by assumption) ?_
                    rotate_left
                    · intro wq hSw; clear hSw; go_simp; (try with_reducible rfl)
                    (try simp only [List.getElem_toArray, List.getElem_cons_zero, List.getElem_cons_succ, Act.put, List.setIfInBounds_toArray, List.set_cons_zero, List.set_cons_succ])
                    refine wpAnyH_take (i := 8) (v := ?_) rfl (by kernel_rfl) (by kernel_rfl) (by kernel_rfl) (fun _ _ _ h => h) (Or.inl ⟨by rfl, ?_⟩) (by assumption) ?_
                    rotate_left
                    · intro wq hSw; have zd0 := keep_cell hSw d0; have zd1 := keep_cell hSw d1; have zd2 := keep_cell hSw d2; have zd3 := keep_cell hSw d3; have zd4 := keep_cell hSw d4; clear hSw; go_simp; (try with_reducible rfl)
                    (try simp only [List.getElem_toArray, List.getElem_cons_zero, List.getElem_cons_succ, Act.put, List.setIfInBounds_toArray, List.set_cons_zero, List.set_cons_succ])
                    refine wpAnyH_take (i := 9) (v := ?_) rfl (by kernel_rfl) (by kernel_rfl) (by kernel_rfl) (fun _ _ _ h => h) (Or.inl ⟨by rfl, ?_⟩) (by assumption) ?_
                    rotate_left
                    · intro wq hSw; clear hSw; go_simp; (try with_reducible rfl)
                    (try simp only [List.getElem_toArray, List.getElem_cons_zero, List.getElem_cons_succ, Act.put, List.setIfInBounds_toArray, List.set_cons_zero, List.set_cons_succ])
                    refine wpAnyH_ready (rs := [10, 14]) (by kernel_rfl) (by simp) ?_
                    refine AllReadyH.cons (i := 10) (by rfl) ?_ (AllReadyH.cons (i := 14) (by rfl) ?_ AllReadyH.nil)
                    · skip
                      intro K' hK
                      simp only [List.getElem_toArray, List.getElem_cons_zero, List.getElem_cons_succ]
                      refine if_yes (by kernel_rfl) ?_
                      go_big_op
                      (go_at_call 39; refine (rafter_val hsl ⟨op, a, b, c', kk⟩ HXF.out HXR.out i (by omega) HAO.out _).mono ?_; rintro e w1 ⟨rfl, hb1⟩)
                      refine hK.out _ _ ?_ (fun hHeld2 => ?_)
                      · exact keep_below hb1 hHeld
                      clear hK K' hHeld
                      have hHeld := hHeld2
                      clear hHeld2
                      (try simp only [List.getElem_toArray, List.getElem_cons_zero, List.getElem_cons_succ, Act.put, List.setIfInBounds_toArray, List.set_cons_zero, List.set_cons_succ])
                      refine wpAnyH_take (i := 11) (v := ?_) rfl (by kernel_rfl) (by kernel_rfl) (by kernel_rfl) (fun _ _ _ h => h) (Or.inl ⟨by rfl, ?_⟩) (by assumption) ?_
                      rotate_left
                      · intro wq hSw; clear hSw; go_simp; (try with_reducible rfl)
                      (try simp only [List.getElem_toArray, List.getElem_cons_zero, List.getElem_cons_succ, Act.put, List.setIfInBounds_toArray, List.set_cons_zero, List.set_cons_succ])
                      refine wpAnyH_take (i := 12) (v := ?_) rfl (by kernel_rfl) (by kernel_rfl) (by kernel_rfl) (fun _ _ _ h => h) (Or.inl ⟨by rfl, ?_⟩) (by assumption) ?_
                      rotate_left
                      · intro wq hSw; clear hSw; go_simp; (try with_reducible rfl)
                      (try simp only [List.getElem_toArray, List.getElem_cons_zero, List.getElem_cons_succ, Act.put, List.setIfInBounds_toArray, List.set_cons_zero, List.set_cons_succ])
                      refine wpAnyH_take (i := 13) (v := ?_) rfl (by kernel_rfl) (by kernel_rfl) (by kernel_rfl) (fun _ _ _ h => h) (Or.inl ⟨by rfl, ?_⟩) (by assumption) ?_
                      rotate_left
                      · intro wq hSw; clear hSw; go_simp; (try with_reducible rfl)
                      (try simp only [List.getElem_toArray, List.getElem_cons_zero, List.getElem_cons_succ, Act.put, List.setIfInBounds_toArray, List.set_cons_zero, List.set_cons_succ])
                      refine wpAnyH_ready (rs := [14]) (by kernel_rfl) (by simp) ?_
                      refine AllReadyH.cons (i := 14) (by rfl) ?_ AllReadyH.nil
                      have hge := hHeld.size
                      have BN := Blk.new w1 #[.int .i64 0, .int .i64 0, .int .i64 0, .int .i64 0, .int .i64 0, .int .i64 0, .int .i64 0, .int .i64 0] 86
                      intro K' hK
                      simp only [List.getElem_toArray, List.getElem_cons_zero, List.getElem_cons_succ]
                      refine if_yes (by kernel_rfl) ?_
                      go_big_op
                      refine hK.out _ _ ?_ (fun hHeld2 => ?_)
                      · exact keep_alloc hHeld _
                      clear hK K' hHeld
                      have hHeld := hHeld2
                      clear hHeld2
                      (try simp only [List.getElem_toArray, List.getElem_cons_zero, List.getElem_cons_succ, Act.put, List.setIfInBounds_toArray, List.set_cons_zero, List.set_cons_succ])
                      refine wpAnyH_ready (rs := [15]) (by kernel_rfl) (by simp) ?_
                      refine AllReadyH.cons (i := 15) (by rfl) ?_ AllReadyH.nil
                      intro K' hK
                      refine if_yes (by kernel_rfl) ?_
                      refine wp_stS rfl rfl rfl BN rfl htl ?_
                      refine hK.out _ _ (keep_row hHeld hge _) (fun hHeld2 => ?_)
                      clear hK K' hHeld
                      have hHeld := hHeld2
                      clear hHeld2
                      (try simp only [List.getElem_toArray, List.getElem_cons_zero, List.getElem_cons_succ, Act.put, List.setIfInBounds_toArray, List.set_cons_zero, List.set_cons_succ])
                      refine wpAnyH_take (i := 16) (v := ?_) rfl (by kernel_rfl) (by kernel_rfl) (by kernel_rfl) (fun _ _ _ h => h) (Or.inl ⟨by rfl, ?_⟩) (by assumption) ?_
                      rotate_left
                      · intro wq hSw; clear hSw; go_simp; (try with_reducible rfl)
                      (try simp only [List.getElem_toArray, List.getElem_cons_zero, List.getElem_cons_succ, Act.put, List.setIfInBounds_toArray, List.set_cons_zero, List.set_cons_succ])
                      refine wpAnyH_done (by kernel_rfl) ?_ _
                      refine NoPanic.normal ?_
                      go_wp2_with fail
                      go_meet
                      exact ⟨_, rfl, rfl, by have := hown.lt; omega, BN.row _, hHeld⟩
                    · skip
                      have BN0 := Blk.newAt (World.drew _) #[.int .i64 0, .int .i64 0, .int .i64 0, .int .i64 0, .int .i64 0, .int .i64 0, .int .i64 0, .int .i64 0] 86 wr.heap.size rfl
                      have hge : wr.heap.size ≤ wr.heap.size := Nat.le_refl _
                      intro K' hK
                      simp only [List.getElem_toArray, List.getElem_cons_zero, List.getElem_cons_succ]
                      refine if_yes (by kernel_rfl) ?_
                      go_big_op
                      refine hK.out _ _ ?_ (fun hHeld2 => ?_)
                      · exact keep_alloc hHeld _
                      clear hK K' hHeld
                      have hHeld := hHeld2
                      clear hHeld2
                      (try simp only [List.getElem_toArray, List.getElem_cons_zero, List.getElem_cons_succ, Act.put, List.setIfInBounds_toArray, List.set_cons_zero, List.set_cons_succ])
                      refine wpAnyH_ready (rs := [10]) (by kernel_rfl) (by simp) ?_
                      refine AllReadyH.cons (i := 10) (by rfl) ?_ AllReadyH.nil
                      intro K' hK
                      simp only [List.getElem_toArray, List.getElem_cons_zero, List.getElem_cons_succ]
                      refine if_yes (by kernel_rfl) ?_
                      go_big_op
                      (go_at_call 39; refine (rafter_val hsl ⟨op, a, b, c', kk⟩ HXF.out HXR.out i (by omega) HAO.out _).mono ?_; rintro e w1 ⟨rfl, hb1⟩)
                      refine hK.out _ _ ?_ (fun hHeld2 => ?_)
                      · exact keep_below hb1 hHeld
                      clear hK K' hHeld
                      have hHeld := hHeld2
                      clear hHeld2
                      (try simp only [List.getElem_toArray, List.getElem_cons_zero, List.getElem_cons_succ, Act.put, List.setIfInBounds_toArray, List.set_cons_zero, List.set_cons_succ])
                      have BN := BN0.below hb1
                      refine wpAnyH_take (i := 11) (v := ?_) rfl (by kernel_rfl) (by kernel_rfl) (by kernel_rfl) (fun _ _ _ h => h) (Or.inl ⟨by rfl, ?_⟩) (by assumption) ?_
                      rotate_left
                      · intro wq hSw; clear hSw; go_simp; (try with_reducible rfl)
                      (try simp only [List.getElem_toArray, List.getElem_cons_zero, List.getElem_cons_succ, Act.put, List.setIfInBounds_toArray, List.set_cons_zero, List.set_cons_succ])
                      refine wpAnyH_take (i := 12) (v := ?_) rfl (by kernel_rfl) (by kernel_rfl) (by kernel_rfl) (fun _ _ _ h => h) (Or.inl ⟨by rfl, ?_⟩) (by assumption) ?_
                      rotate_left
                      · intro wq hSw; clear hSw; go_simp; (try with_reducible rfl)
                      (try simp only [List.getElem_toArray, List.getElem_cons_zero, List.getElem_cons_succ, Act.put, List.setIfInBounds_toArray, List.set_cons_zero, List.set_cons_succ])
                      refine wpAnyH_take (i := 13) (v := ?_) rfl (by kernel_rfl) (by kernel_rfl) (by kernel_rfl) (fun _ _ _ h => h) (Or.inl ⟨by rfl, ?_⟩) (by assumption) ?_
                      rotate_left
                      · intro wq hSw; clear hSw; go_simp; (try with_reducible rfl)
                      (try simp only [List.getElem_toArray, List.getElem_cons_zero, List.getElem_cons_succ, Act.put, List.setIfInBounds_toArray, List.set_cons_zero, List.set_cons_succ])
                      refine wpAnyH_ready (rs := [15]) (by kernel_rfl) (by simp) ?_
                      refine AllReadyH.cons (i := 15) (by rfl) ?_ AllReadyH.nil
                      intro K' hK
                      refine if_yes (by kernel_rfl) ?_
                      refine wp_stS rfl rfl rfl BN rfl htl ?_
                      refine hK.out _ _ (keep_row hHeld hge _) (fun hHeld2 => ?_)
                      clear hK K' hHeld
                      have hHeld := hHeld2
                      clear hHeld2
                      (try simp only [List.getElem_toArray, List.getElem_cons_zero, List.getElem_cons_succ, Act.put, List.setIfInBounds_toArray, List.set_cons_zero, List.set_cons_succ])
                      refine wpAnyH_take (i := 16) (v := ?_) rfl (by kernel_rfl) (by kernel_rfl) (by kernel_rfl) (fun _ _ _ h => h) (Or.inl ⟨by rfl, ?_⟩) (by assumption) ?_
                      rotate_left
                      · intro wq hSw; clear hSw; go_simp; (try with_reducible rfl)
                      (try simp only [List.getElem_toArray, List.getElem_cons_zero, List.getElem_cons_succ, Act.put, List.setIfInBounds_toArray, List.set_cons_zero, List.set_cons_succ])
                      refine wpAnyH_done (by kernel_rfl) ?_ _
                      refine NoPanic.normal ?_
                      go_wp2_with fail
                      go_meet
                      exact ⟨_, rfl, rfl, by have := hown.lt; omega, BN.row _, hHeld⟩
                  case rest =>
                    obtain ⟨h9, rfl, rfl, h9ne, B9, hbc⟩ := hcut
                    have hownc := hown.below hbc
                    have hgrc := gb_below hgr hbc
                    have e1 := keep_cell hbc q1
                    have e2 := keep_cell hbc d0
                    have e3 := keep_cell hbc d1
                    have e4 := keep_cell hbc d2
                    have e5 := keep_cell hbc d3
                    have e6 := keep_cell hbc d4
                    have hkU : op = 9 ∨ op = 10 → U kk ≤ 1000 := by
                      intro h
                      have h2 := HXS.out
                      unfold soundI targetsI jumps at h2
                      simp [h] at h2
                      omega
                    have HAB := Lib.hid (show Above l (waysL op kk i) t from by have := HI2.out.1.above HXF.out HXR.out HX.out HTB.out; rw [HAO.out] at this; exact this)
                    clear q1 d0 d1 d2 d3 d4 hown hgr hbc
                    go_wp2_with ((go_at_call 40; refine (ways_fresh op a b c' kk i (by omega) hkU _).mono ?_; rintro e w9 ⟨A2, c2, rfl, hR, hb9, hfr⟩))
                    have HK := Lib.hid (fun v (hv : v ∈ waysL op kk i) => ways_nat (x := ⟨op, a, b, c', kk⟩) (n := k) (by have := HXS.out; unfold soundI at this; rw [Bool.and_eq_true] at this; exact this.1) hlt hv)
                    obtain ⟨L, hL⟩ : ∃ L, waysL op kk i = L := ⟨_, rfl⟩
                    rw [hL] at hR HK HAB ⊢
                    have HLL := Lib.hid hL
                    obtain ⟨m, hm⟩ : ∃ m, L.length = m := ⟨_, rfl⟩
                    have hm2 : m ≤ 2 := by rw [← hm, ← hL]; exact waysL_len _ _ _
                    rw [hm] at hR ⊢
                    have HM := Lib.hid hm
                    have hown9 := hownc.below hb9
                    have hgr9 := gb_below hgrc hb9
                    have B9n := B9.below hb9
                    have hbl := hownc.lt
                    have HFR := Lib.hid hfr
                    have n9 : h9 ≠ bm := h9ne
                    clear e1 e2 e3 e4 e5 e6 hb9 hownc hgrc B9 hL hm hkU hfr
                    go_loopg [7, 12] m (fun G6 s7 s12 wq => ∃ (p : Nat) (tb3 : Tbl) (ag3 : Bool), p + G6 = m ∧ s12 = .int .i64 p ∧ s7 = .bool ag3 ∧ Aside (SInv l k tb3 ∧ (ag3 = false → ag = false ∧ tb3 = tb2 ∧ ∀ (q k' : Nat), q < p → L[q]? = some (k' : Int) → tb2 k' = some (up (tb2 k') t)) ∧ (ag3 = true → tb3.meas k < tb.meas k)) ∧ HoldsR wq bm (k + 1) tb3 ∧ w9.grownBy wq (some bm))
                    case atStart => exact ⟨0, tb2, ag, by omega, rfl, rfl, ⟨HI2.out.1, fun h => ⟨h, rfl, fun q k' hq => by omega⟩, HI2.out.2.2⟩, hown9, ⟨rfl, rfl, rfl, Nat.le_refl _, fun _ _ _ => rfl⟩⟩
                    case round =>
                      clear hown9
                      obtain ⟨p, tb3, ag3, hpm, rfl, rfl, HI3, hown, hgr⟩ := hrel
                      have HPM := Lib.hid hpm
                      cases gk with
                      | zero =>
                        have hp1 : decide ((p : Int) < (m : Int)) = false := decide_eq_false (by omega)
                        have hp2 : decide (p < m) = false := decide_eq_false (by omega)
                        clear hpm
                        go_wp2_with fail
                        go_roundg g5
                        case measure => omega
                        case rel =>
                          refine ⟨i + 1, tb3, ag3, by have := HIK.out; omega, by go_num, rfl, ⟨HI3.out.1, fun h3 => ?_, HI3.out.2.2⟩, hown, hgr9.andThen (row' := some bm) hgr (fun _ e => Or.inr e)⟩
                          obtain ⟨hag, e3, hst⟩ := HI3.out.2.1 h3
                          obtain ⟨e2, hst2⟩ := HI2.out.2.1 hag
                          refine ⟨e3.trans e2, fun j hj => ?_⟩
                          by_cases e : j < i
                          · exact hst2 j e
                          · obtain rfl : j = i := by omega
                            intro x s' hx hs' k' hk'
                            obtain rfl : _ = x := Option.some.inj (HX.out.symm.trans hx)
                            obtain rfl : s = s' := Option.some.inj (HTB.out.symm.trans (e2 ▸ hs'))
                            rw [HAO.out]
                            rw [show waysL op kk j = L from HLL.out] at hk'
                            obtain ⟨q, hq⟩ := List.getElem?_of_mem hk'
                            have := hst q k' (by have := (List.getElem?_eq_some_iff.1 hq).1; have := HM.out; have := HPM.out; omega) hq
                            rw [e2] at this
                            exact this
                      | succ g6 =>
                        have hplt : p < m := by omega
                        obtain ⟨b2, off2, v, rfl, hbb2, hv, hcv⟩ := hR.elem (f := intCells) (fun _ => rfl) (by omega) hplt
                        have hb2m : b2 ≠ bm := by have := HFR.out b2 off2 rfl; omega
                        have f0 := hcv 0 _ rfl
                        rw [Nat.mul_one, Nat.add_zero] at f0
                        obtain ⟨k', rfl, hk'k⟩ := HK.out v (List.mem_of_getElem? hv)
                        have HV := Lib.hid hv
                        have HKM := Lib.hid (List.mem_of_getElem? hv)
                        have f1 := gb_cell hgr f0 hb2m
                        have B9 := gb_blk hgr B9n n9
                        have hp0 : (0 : Int) ≤ (p : Int) := by omega
                        have hp1 : (p : Int) < (m : Int) := by omega
                        have hp2 : decide ((p : Int) < (m : Int)) = true := decide_eq_true hp1
                        have hp3 : decide (p < m) = true := decide_eq_true hplt
                        have hq0 : (0 : Int) ≤ (k' : Int) := by omega
                        have hq1 : (k' : Int) < (k : Int) + 1 := by omega
                        have hwp : IntKind.i64.wrap ((p : Int) + 1) = (p : Int) + 1 := IntWalk.i64_in _ (by omega)
                        have hT3 : ∀ s, tb3 k' = some s → s.length = 8 := fun s hs => HI3.out.1.tlen k' s hs
                        obtain ⟨v, hv2⟩ : ∃ v, up (tb3 k') t = v := ⟨_, rfl⟩
                        have hvl : v.length = 8 := by rw [← hv2]; exact up_len hT3 htl
                        have HV2 := Lib.hid hv2
                        clear hv hcv hpm f0 hv2
                        go_upto_region 28 with fail
                        go_cut [13] from 97 to 105 (fun s13 wx => ∃ h13, s13 = .pointer (some ⟨h13, 0, none⟩) ∧ Blk wx h13 86 (RS v) ∧ h13 ≠ bm ∧ Below wr.heap.size wr wx)
                        case first => as_aux_lemma =>
                          refine wp_region_noPanic ?_
                          refine wp_region_held_drew (S := fun w' => Below wr.heap.size wr w') (by kernel_rfl) (Below.refl _ _).drew (fun hHeld => ?_)
                          refine wpAnyH_take (i := 0) (v := ?_) rfl (by kernel_rfl) (by kernel_rfl) (by kernel_rfl) (fun _ _ _ h => h) (Or.inl ⟨by rfl, ?_⟩) (by assumption) ?_
                          rotate_left
                          · intro wq hSw; clear hSw; go_simp; (try with_reducible rfl)
                          (try simp only [List.getElem_toArray, List.getElem_cons_zero, List.getElem_cons_succ, Act.put, List.setIfInBounds_toArray, List.set_cons_zero, List.set_cons_succ])
                          refine wpAnyH_take (i := 1) (v := ?_) rfl (by kernel_rfl) (by kernel_rfl) (by kernel_rfl) (fun _ _ _ h => h) (Or.inl ⟨by rfl, ?_⟩) (by assumption) ?_
                          rotate_left
                          · intro wq hSw; clear hSw; go_simp; (try with_reducible rfl)
                          (try simp only [List.getElem_toArray, List.getElem_cons_zero, List.getElem_cons_succ, Act.put, List.setIfInBounds_toArray, List.set_cons_zero, List.set_cons_succ])
                          refine wpAnyH_take (i := 2) (v := ?_) rfl (by kernel_rfl) (by kernel_rfl) (by kernel_rfl) (fun _ _ _ h => h) (Or.inl ⟨by rfl, ?_⟩) (by assumption) ?_
                          rotate_left
                          · intro wq hSw; clear hSw; go_simp; (try with_reducible rfl)
                          (try simp only [List.getElem_toArray, List.getElem_cons_zero, List.getElem_cons_succ, Act.put, List.setIfInBounds_toArray, List.set_cons_zero, List.set_cons_succ])
                          refine wpAnyH_take (i := 3) (v := ?_) rfl (by kernel_rfl) (by kernel_rfl) (by kernel_rfl) (fun _ _ _ h => h) (Or.inl ⟨by rfl, ?_⟩) (by assumption) ?_
                          rotate_left
                          · intro wq hSw; clear hSw; go_simp; (try with_reducible rfl)
                          (try simp only [List.getElem_toArray, List.getElem_cons_zero, List.getElem_cons_succ, Act.put, List.setIfInBounds_toArray, List.set_cons_zero, List.set_cons_succ])
                          refine wpAnyH_take (i := 4) (v := ?_) rfl (by kernel_rfl) (by kernel_rfl) (by kernel_rfl) (fun _ _ _ h => h) (Or.inl ⟨by rfl, ?_⟩) (by assumption) ?_
                          rotate_left
                          · intro wq hSw; have zf1 := keep_cell hSw f1; clear hSw; go_simp; (try with_reducible rfl)
                          (try simp only [List.getElem_toArray, List.getElem_cons_zero, List.getElem_cons_succ, Act.put, List.setIfInBounds_toArray, List.set_cons_zero, List.set_cons_succ])
                          refine wpAnyH_take (i := 5) (v := ?_) rfl (by kernel_rfl) (by kernel_rfl) (by kernel_rfl) (fun _ _ _ h => h) (Or.inl ⟨by rfl, ?_⟩) (by assumption) ?_
                          rotate_left
                          · intro wq hSw; clear hSw; go_simp; (try with_reducible rfl)
                          (try simp only [List.getElem_toArray, List.getElem_cons_zero, List.getElem_cons_succ, Act.put, List.setIfInBounds_toArray, List.set_cons_zero, List.set_cons_succ])
                          refine wpAnyH_take (i := 6) (v := .agg (IS (rowI (tb3 k')))) rfl (by kernel_rfl) (by kernel_rfl) (by kernel_rfl) (fun _ _ _ h => h) (Or.inl ⟨by rfl, fun wq hSw => exec_ldM rfl rfl (hown.below hSw) hT3 (by omega)⟩) (by assumption) ?_
                          (try simp only [List.getElem_toArray, List.getElem_cons_zero, List.getElem_cons_succ, Act.put, List.setIfInBounds_toArray, List.set_cons_zero, List.set_cons_succ])
                          refine wpAnyH_take (i := 7) (v := .agg (RS t)) rfl (by kernel_rfl) (by kernel_rfl) (by kernel_rfl) (fun _ _ _ h => h) (Or.inl ⟨by rfl, fun wq hSw => exec_ldS rfl rfl (B9.below hSw) htl⟩) (by assumption) ?_
                          (try simp only [List.getElem_toArray, List.getElem_cons_zero, List.getElem_cons_succ, Act.put, List.setIfInBounds_toArray, List.set_cons_zero, List.set_cons_succ])
                          refine wpAnyH_ready (rs := [8, 9]) (by kernel_rfl) (by simp) ?_
                          refine AllReadyH.cons (i := 8) (by rfl) ?_ (AllReadyH.cons (i := 9) (by rfl) ?_ AllReadyH.nil)
                          · skip
                            intro K' hK
                            simp only [List.getElem_toArray, List.getElem_cons_zero, List.getElem_cons_succ]
                            refine if_yes (by kernel_rfl) ?_
                            go_big_op
                            (go_at_call 41; refine (rjoin_val hT3 htl _).mono ?_; rw [HV2.out]; rintro e w1 ⟨rfl, hb1⟩)
                            refine hK.out _ _ ?_ (fun hHeld2 => ?_)
                            · exact keep_below hb1 hHeld
                            clear hK K' hHeld
                            have hHeld := hHeld2
                            clear hHeld2
                            (try simp only [List.getElem_toArray, List.getElem_cons_zero, List.getElem_cons_succ, Act.put, List.setIfInBounds_toArray, List.set_cons_zero, List.set_cons_succ])
                            refine wpAnyH_ready (rs := [9]) (by kernel_rfl) (by simp) ?_
                            refine AllReadyH.cons (i := 9) (by rfl) ?_ AllReadyH.nil
                            have hge := hHeld.size
                            have BN := Blk.new w1 #[.int .i64 0, .int .i64 0, .int .i64 0, .int .i64 0, .int .i64 0, .int .i64 0, .int .i64 0, .int .i64 0] 86
                            intro K' hK
                            simp only [List.getElem_toArray, List.getElem_cons_zero, List.getElem_cons_succ]
                            refine if_yes (by kernel_rfl) ?_
                            go_big_op
                            refine hK.out _ _ ?_ (fun hHeld2 => ?_)
                            · exact keep_alloc hHeld _
                            clear hK K' hHeld
                            have hHeld := hHeld2
                            clear hHeld2
                            (try simp only [List.getElem_toArray, List.getElem_cons_zero, List.getElem_cons_succ, Act.put, List.setIfInBounds_toArray, List.set_cons_zero, List.set_cons_succ])
                            refine wpAnyH_ready (rs := [10]) (by kernel_rfl) (by simp) ?_
                            refine AllReadyH.cons (i := 10) (by rfl) ?_ AllReadyH.nil
                            intro K' hK
                            refine if_yes (by kernel_rfl) ?_
                            refine wp_stS rfl rfl rfl BN rfl hvl ?_
                            refine hK.out _ _ (keep_row hHeld hge _) (fun hHeld2 => ?_)
                            clear hK K' hHeld
                            have hHeld := hHeld2
                            clear hHeld2
                            (try simp only [List.getElem_toArray, List.getElem_cons_zero, List.getElem_cons_succ, Act.put, List.setIfInBounds_toArray, List.set_cons_zero, List.set_cons_succ])
                            refine wpAnyH_done (by kernel_rfl) ?_ _
                            refine NoPanic.normal ?_
                            go_wp2_with fail
                            go_meet
                            exact ⟨_, rfl, BN.row _, by have := hown.lt; omega, hHeld⟩
                          · skip
                            have BN0 := Blk.newAt (World.drew _) #[.int .i64 0, .int .i64 0, .int .i64 0, .int .i64 0, .int .i64 0, .int .i64 0, .int .i64 0, .int .i64 0] 86 wr.heap.size rfl
                            have hge : wr.heap.size ≤ wr.heap.size := Nat.le_refl _
                            intro K' hK
                            simp only [List.getElem_toArray, List.getElem_cons_zero, List.getElem_cons_succ]
                            refine if_yes (by kernel_rfl) ?_
                            go_big_op
                            refine hK.out _ _ ?_ (fun hHeld2 => ?_)
                            · exact keep_alloc hHeld _
                            clear hK K' hHeld
                            have hHeld := hHeld2
                            clear hHeld2
                            (try simp only [List.getElem_toArray, List.getElem_cons_zero, List.getElem_cons_succ, Act.put, List.setIfInBounds_toArray, List.set_cons_zero, List.set_cons_succ])
                            refine wpAnyH_ready (rs := [8]) (by kernel_rfl) (by simp) ?_
                            refine AllReadyH.cons (i := 8) (by rfl) ?_ AllReadyH.nil
                            intro K' hK
                            simp only [List.getElem_toArray, List.getElem_cons_zero, List.getElem_cons_succ]
                            refine if_yes (by kernel_rfl) ?_
                            go_big_op
                            (go_at_call 41; refine (rjoin_val hT3 htl _).mono ?_; rw [HV2.out]; rintro e w1 ⟨rfl, hb1⟩)
                            refine hK.out _ _ ?_ (fun hHeld2 => ?_)
                            · exact keep_below hb1 hHeld
                            clear hK K' hHeld
                            have hHeld := hHeld2
                            clear hHeld2
                            (try simp only [List.getElem_toArray, List.getElem_cons_zero, List.getElem_cons_succ, Act.put, List.setIfInBounds_toArray, List.set_cons_zero, List.set_cons_succ])
                            have BN := BN0.below hb1
                            refine wpAnyH_ready (rs := [10]) (by kernel_rfl) (by simp) ?_
                            refine AllReadyH.cons (i := 10) (by rfl) ?_ AllReadyH.nil
                            intro K' hK
                            refine if_yes (by kernel_rfl) ?_
                            refine wp_stS rfl rfl rfl BN rfl hvl ?_
                            refine hK.out _ _ (keep_row hHeld hge _) (fun hHeld2 => ?_)
                            clear hK K' hHeld
                            have hHeld := hHeld2
                            clear hHeld2
                            (try simp only [List.getElem_toArray, List.getElem_cons_zero, List.getElem_cons_succ, Act.put, List.setIfInBounds_toArray, List.set_cons_zero, List.set_cons_succ])
                            refine wpAnyH_done (by kernel_rfl) ?_ _
                            refine NoPanic.normal ?_
                            go_wp2_with fail
                            go_meet
                            exact ⟨_, rfl, BN.row _, by have := hown.lt; omega, hHeld⟩
                        case rest =>
                          obtain ⟨h13, rfl, B13, n13, hbc⟩ := hcut
                          have hownc := hown.below hbc
                          have hgrc := gb_below hgr hbc
                          have f2 := keep_cell hbc f1
                          clear hown hgr B9 f1 hbc
                          go_upto_region 29 with fail
                          have heq : ∀ w', (Op.equalIn 10000 86 (.agg (RS v)) (.agg (IS (rowI (tb3 k'))))).run Try.prog w' = .ok (decide (v.map Srt.num = rowI (tb3 k'))) w' := fun w' => ints_eq _ _ (nums_len hvl) (rowI_len hT3) w'
                          obtain ⟨e, he⟩ : ∃ e, decide (v.map Srt.num = rowI (tb3 k')) = e := ⟨_, rfl⟩
                          rw [he] at heq
                          have HE := Lib.hid he
                          clear he
                          have HF2 := Lag.cell f2
                          refine wp_region_lag (by kernel_rfl) (by kernel_rfl) ?_
                          go_big_quiet_want
                          refine quiet_ldS rfl rfl (fun w' hw' => hw'.elim fun u hu => hu ▸ B13.below u.h) hvl ?_
                          simp only [Act.put, List.setIfInBounds_toArray, List.set_cons_zero, List.set_cons_succ]
                          go_big_quiet_on
                          iterate 6 (go_big_quiet_step (fail))
                          go_big_quiet_want
                          refine quiet_ldM (j := k') rfl rfl (fun w' hw' => hw'.elim fun u hu => hu ▸ hownc.below u.h) hT3 (by omega) ?_
                          simp only [Act.put, List.setIfInBounds_toArray, List.set_cons_zero, List.set_cons_succ]
                          go_big_quiet_on
                          go_big_quiet_step (fail)
                          refine wpQuiet_nil ?_
                          rintro wd ⟨uu, hu⟩
                          have hbd : Below wc.heap.size wc wd := hu ▸ uu.h
                          have hownd := hownc.below hbd
                          have hgrd := gb_below hgrc hbd
                          have f3 := keep_cell hbd f2
                          have B13d := B13.below hbd
                          clear hu uu HF2 hbd hownc hgrc f2 B13 heq
                          cases e with
                          | false =>
                            have hne := Lib.hid (of_decide_eq_false HE.out)
                            go_upto_region 30 with fail
                            refine wp_region_noPanic ?_
                            refine wp_region_held_drew (S := (fun w' => wd.grownBy w' (some bm))) (by kernel_rfl) ⟨rfl, rfl, rfl, Nat.le_refl _, fun _ _ _ => rfl⟩ (fun hHeld => ?_)
                            refine wpAnyH_take (i := 0) (v := ?_) rfl (by kernel_rfl) (by kernel_rfl) (by kernel_rfl) (fun _ _ _ h => h) (Or.inl ⟨by rfl, ?_⟩) (by assumption) ?_
                            rotate_left
                            · intro wq hSw; clear hSw; go_simp; (try with_reducible rfl)
                            (try simp only [List.getElem_toArray, List.getElem_cons_zero, List.getElem_cons_succ, Act.put, List.setIfInBounds_toArray, List.set_cons_zero, List.set_cons_succ])
                            refine wpAnyH_take (i := 1) (v := ?_) rfl (by kernel_rfl) (by kernel_rfl) (by kernel_rfl) (fun _ _ _ h => h) (Or.inl ⟨by rfl, ?_⟩) (by assumption) ?_
                            rotate_left
                            · intro wq hSw; clear hSw; go_simp; (try with_reducible rfl)
                            (try simp only [List.getElem_toArray, List.getElem_cons_zero, List.getElem_cons_succ, Act.put, List.setIfInBounds_toArray, List.set_cons_zero, List.set_cons_succ])
                            refine wpAnyH_take (i := 2) (v := ?_) rfl (by kernel_rfl) (by kernel_rfl) (by kernel_rfl) (fun _ _ _ h => h) (Or.inl ⟨by rfl, ?_⟩) (by assumption) ?_
                            rotate_left
                            · intro wq hSw; clear hSw; go_simp; (try with_reducible rfl)
                            (try simp only [List.getElem_toArray, List.getElem_cons_zero, List.getElem_cons_succ, Act.put, List.setIfInBounds_toArray, List.set_cons_zero, List.set_cons_succ])
                            refine wpAnyH_take (i := 3) (v := ?_) rfl (by kernel_rfl) (by kernel_rfl) (by kernel_rfl) (fun _ _ _ h => h) (Or.inl ⟨by rfl, ?_⟩) (by assumption) ?_
                            rotate_left
                            · intro wq hSw; clear hSw; go_simp; (try with_reducible rfl)
                            (try simp only [List.getElem_toArray, List.getElem_cons_zero, List.getElem_cons_succ, Act.put, List.setIfInBounds_toArray, List.set_cons_zero, List.set_cons_succ])
                            refine wpAnyH_take (i := 4) (v := ?_) rfl (by kernel_rfl) (by kernel_rfl) (by kernel_rfl) (fun _ _ _ h => h) (Or.inl ⟨by rfl, ?_⟩) (by assumption) ?_
                            rotate_left
                            · intro wq hSw; have zf3 := gb_cell hSw f3 hb2m; clear hSw; go_simp; (try with_reducible rfl)
                            (try simp only [List.getElem_toArray, List.getElem_cons_zero, List.getElem_cons_succ, Act.put, List.setIfInBounds_toArray, List.set_cons_zero, List.set_cons_succ])
                            refine wpAnyH_take (i := 5) (v := .agg (RS v)) rfl (by kernel_rfl) (by kernel_rfl) (by kernel_rfl) (fun _ _ _ h => h) (Or.inl ⟨by rfl, fun wq hSw => exec_ldS rfl rfl (gb_blk hSw B13d n13) hvl⟩) (by assumption) ?_
                            (try simp only [List.getElem_toArray, List.getElem_cons_zero, List.getElem_cons_succ, Act.put, List.setIfInBounds_toArray, List.set_cons_zero, List.set_cons_succ])
                            refine wpAnyH_take (i := 6) (v := ?_) rfl (by kernel_rfl) (by kernel_rfl) (by kernel_rfl) (fun _ _ _ h => h) (Or.inl ⟨by rfl, ?_⟩) (by assumption) ?_
                            rotate_left
                            · intro wq hSw; clear hSw; go_simp; (try with_reducible rfl)
                            (try simp only [List.getElem_toArray, List.getElem_cons_zero, List.getElem_cons_succ, Act.put, List.setIfInBounds_toArray, List.set_cons_zero, List.set_cons_succ])
                            refine wpAnyH_ready (rs := [7]) (by kernel_rfl) (by simp) ?_
                            refine AllReadyH.cons (i := 7) (by rfl) ?_ AllReadyH.nil
                            intro K' hK
                            refine if_yes (by kernel_rfl) ?_
                            refine wp_stM (j := k') rfl rfl rfl (hownd.below (Below.refl _ _).drew) (by omega) hvl ?_
                            refine hK.out _ _ (gb_setCells bm _ _ hHeld) (fun hHeld2 => ?_)
                            clear hK K' hHeld
                            have hHeld := hHeld2
                            clear hHeld2
                            (try simp only [List.getElem_toArray, List.getElem_cons_zero, List.getElem_cons_succ, Act.put, List.setIfInBounds_toArray, List.set_cons_zero, List.set_cons_succ])
                            refine wpAnyH_take (i := 8) (v := ?_) rfl (by kernel_rfl) (by kernel_rfl) (by kernel_rfl) (fun _ _ _ h => h) (Or.inl ⟨by rfl, ?_⟩) (by assumption) ?_
                            rotate_left
                            · intro wq hSw; clear hSw; go_simp; (try with_reducible rfl)
                            (try simp only [List.getElem_toArray, List.getElem_cons_zero, List.getElem_cons_succ, Act.put, List.setIfInBounds_toArray, List.set_cons_zero, List.set_cons_succ])
                            refine wpAnyH_done (by kernel_rfl) ?_ _
                            refine NoPanic.normal ?_
                            obtain ⟨wz, hwz⟩ : ∃ wz, (World.drew wd).setCells bm (k' * 8) ((v.map Srt.num).map (Value.int .i64)) = wz := ⟨_, rfl⟩
                            have hputz : HoldsR wz bm (k + 1) (tb3.put k' v) := hwz ▸ HoldsR.put (hownd.below (Below.refl _ _).drew) (by omega) hvl
                            have hgrzz : w9.grownBy wz (some bm) := hwz ▸ gb_setCells bm ((v.map Srt.num).map (Value.int .i64)) (k' * 8) (w := World.drew wd) (hgrd.andThen (row' := some bm) ⟨rfl, rfl, rfl, Nat.le_refl _, fun _ _ _ => rfl⟩ (fun _ e => Or.inr e))
                            rw [hwz]
                            clear hwz hHeld hownd hgrd f3 B13d
                            go_wp2_with fail
                            go_roundg g6
                            case measure => omega
                            case rel =>
                              have hlt3 : (tb3.put k' v).meas k < tb3.meas k := by
                                have := Tbl.meas_up (tb := tb3) (k := k') (n := k) HI3.out.1.tlen htl (fun e => hne.out (by rw [← HV2.out]; exact (row_same hT3 htl).2 e)) hk'k
                                rw [HV2.out] at this
                                exact this
                              refine ⟨p + 1, tb3.put k' v, true, by have := HPM.out; omega, by go_num, rfl, ⟨?_, (fun h => by cases h), fun _ => ?_⟩, hputz, hgrzz⟩
                              · have := HI3.out.1.upA HAB.out htl HKM.out hk'k
                                rw [HV2.out] at this
                                exact this
                              · cases ag3 with
                                | true => have := HI3.out.2.2 rfl; omega
                                | false =>
                                  obtain ⟨hag, e3, -⟩ := HI3.out.2.1 rfl
                                  obtain ⟨e2, -⟩ := HI2.out.2.1 hag
                                  rw [e3, e2] at hlt3
                                  rw [e3, e2]
                                  exact hlt3
                          | true =>
                            go_wp2_with fail
                            go_roundg g6
                            case measure => omega
                            case rel =>
                              refine ⟨p + 1, tb3, ag3, by have := HPM.out; omega, by go_num, rfl, ⟨HI3.out.1, fun h3 => ?_, HI3.out.2.2⟩, hownd, hgrd⟩
                              obtain ⟨hag, e3, hst⟩ := HI3.out.2.1 h3
                              refine ⟨hag, e3, fun q k2 hq hk2 => ?_⟩
                              by_cases e : q < p
                              · exact hst q k2 e hk2
                              · obtain rfl : q = p := by omega
                                obtain rfl : k2 = k' := by have := Option.some.inj (hk2.symm.trans HV.out); omega
                                have hsame := of_decide_eq_true HE.out
                                rw [← HV2.out] at hsame
                                rw [← e3]
                                exact (row_same hT3 htl).1 hsame
end Go.Proofs.Ytpmdgmgcbminaaa

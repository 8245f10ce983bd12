/- The walk of NcodeWordsSafe. Printed by mk_wsafe.py. -/
import Derived.Test.YtpmdgmgcbminaaaWNcodeSafe
namespace Go.Proofs.Ytpmdgmgcbminaaa
open Go.ChangeShapes Go.WideShapes Go.RowKit Words

/-- an instruction made harmless -/
def wsI (x : NI) : NI := if x.op = 13 ∧ x.b = 19 then ⟨x.op, x.a, 4, x.c, x.k⟩ else if x.op = 11 ∨ x.op = 12 then ⟨1, 0, 0, 0, 0⟩ else x
theorem fit_sound {n : Nat} {fl : List Int} {x : NI} (hx : Fit n fl x) : soundI n x = true := by
  obtain ⟨op, a, b, c, k⟩ := x
  obtain ⟨⟨h1, h2⟩, -, ⟨hb0, hb1⟩, hc0, hc1⟩ := (formedI_iff _).1 hx.form
  have hj := hx.jump
  have hr := hx.regs
  have hc := hx.call
  dsimp only at h1 h2 hb0 hb1 hc0 hc1 hj hr hc
  have t1 : targetsI n ⟨op, a, b, c, k⟩ = true := by
    unfold targetsI jumps
    by_cases h : op = 9 ∨ op = 10
    · simp only [decide_eq_true (hj h)]; simp
    · simp only [decide_eq_false h]; rfl
  have t2 : regsI ⟨op, a, b, c, k⟩ = true := by
    unfold regsI takesBI
    by_cases h : (2 ≤ op ∧ op ≤ 8) ∨ op = 11 ∨ op = 12
    · simp only [decide_eq_true h, if_true]; have := hr h; simp; omega
    · simp only [decide_eq_false h]
      by_cases h13 : op = 13
      · simp [h13, (hc h13).2]
      · simp [h13]
  unfold soundI
  rw [t1, t2]; rfl
theorem ws_fit {n : Nat} {x : NI} (hx : Fit n [0, 1, 2] x) : Fit n [0, 1, 2] (wsI x) ∧ (wsI x).op ≠ 11 ∧ (wsI x).op ≠ 12 ∧ ¬ ((wsI x).op = 13 ∧ (wsI x).b = 19) := by
  unfold wsI
  by_cases h1 : x.op = 13 ∧ x.b = 19
  · rw [if_pos h1]
    obtain ⟨op, a, b, c, k⟩ := x
    dsimp only at h1
    obtain ⟨rfl, rfl⟩ := h1
    obtain ⟨-, ha, -, hc⟩ := (formedI_iff _).1 hx.form
    have hcc := (hx.call rfl).2
    show Fit n [0, 1, 2] ⟨13, a, 4, c, k⟩ ∧ (13 : Int) ≠ 11 ∧ (13 : Int) ≠ 12 ∧ ¬ ((13 : Int) = 13 ∧ (4 : Int) = 19)
    refine ⟨⟨(formedI_iff _).2 ⟨show (1 : Int) ≤ 13 ∧ (13 : Int) ≤ 17 by decide, ha, show (0 : Int) ≤ 4 ∧ (4 : Int) ≤ 255 by decide, hc⟩, fun h => ?_, fun h => ?_, fun _ => ⟨show (1 : Int) ≤ 4 ∧ (4 : Int) ≤ 20 by decide, hcc⟩, fun h => ?_⟩, by decide, by decide, by decide⟩
    · rcases h with h | h <;> cases h
    · rcases h with h | h | h
      · exact absurd h (show ¬ ((2 : Int) ≤ 13 ∧ (13 : Int) ≤ 8) by decide)
      · cases h
      · cases h
    · cases h
  · rw [if_neg h1]
    by_cases h2 : x.op = 11 ∨ x.op = 12
    · rw [if_pos h2]
      refine ⟨⟨by decide, fun h => ?_, fun h => ?_, fun h => ?_, fun h => ?_⟩, by decide, by decide, by decide⟩
      · rcases h with h | h <;> cases h
      · rcases h with h | h | h
        · exact absurd h (by decide)
        · cases h
        · cases h
      · cases h
      · cases h
    · rw [if_neg h2]
      exact ⟨hx, fun h => h2 (Or.inl h), fun h => h2 (Or.inr h), h1⟩
theorem words0 (a b : Nat) : wordsS sort0 a b = true := by
  unfold wordsS
  rw [List.all_eq_true]
  intro x hx
  have : x ∈ sort0 := List.mem_of_mem_drop (List.mem_of_mem_take hx)
  rw [decide_eq_true_eq]
  exact List.eq_of_mem_replicate this
theorem get0 (j : Nat) : sort0[j]?.getD .wd = .wd := by
  cases h : sort0[j]? with
  | none => rfl
  | some x => exact List.eq_of_mem_replicate (List.mem_of_getElem? h)
theorem set0 (j : Nat) : sort0.set j .wd = sort0 := by
  apply List.ext_getElem?
  intro i
  rw [List.getElem?_set]
  split
  · rename_i e
    subst e
    split
    · unfold sort0; rw [List.getElem?_replicate, if_pos (by simpa [sort0] using by assumption)]
    · rw [List.getElem?_eq_none (by omega)]
  · rfl
theorem aft0 {x : NI} (h11 : x.op ≠ 11) (h12 : x.op ≠ 12) (h19 : ¬ (x.op = 13 ∧ x.b = 19)) (i : Nat) : aft sort0 x i = (sort0, true) := by
  unfold aft
  rw [get0, get0, get0]
  unfold afterP
  by_cases h9 : x.op = 9
  · rw [if_pos h9]
  rw [if_neg h9]
  by_cases h10 : x.op = 10 ∨ x.op = 15 ∨ x.op = 17
  · rw [if_pos h10]; rfl
  rw [if_neg h10, if_neg h12]
  by_cases h14 : x.op = 14
  · rw [if_pos h14, set0, words0]
  rw [if_neg h14]
  by_cases h13 : x.op = 13
  · rw [if_pos h13, words0]
    have hb : x.b ≠ 19 := fun e => h19 ⟨h13, e⟩
    unfold calledS
    rw [if_neg hb]
    have : sort0.map (calledG x.b i) = sort0 := by
      unfold sort0
      rw [List.map_replicate]
      congr 1
      unfold calledG
      rw [if_neg hb]
      split <;> rfl
    rw [this, set0]
  · rw [if_neg h13]
    have : resS x.op .wd .wd = (.wd, true) := by
      unfold resS
      split
      · rfl
      split
      · rfl
      split
      · rfl
      split
      · rfl
      split
      · rfl
      first
        | rfl
        | (split
           · exact absurd (by assumption) h11
           · rfl)
    rw [this, set0]
theorem safe_ws {g : Int} {l : List NI} (hg : 0 ≤ g ∧ g ≤ 3) (hl : l.length ≤ 57) (h : ∀ x ∈ l, Fit l.length [0, 1, 2] x) : safeC g (l.map wsI) = true := by
  have hm : ∀ y ∈ l.map wsI, Fit l.length [0, 1, 2] y ∧ y.op ≠ 11 ∧ y.op ≠ 12 ∧ ¬ (y.op = 13 ∧ y.b = 19) := by
    intro y hy
    obtain ⟨x, hx, rfl⟩ := List.mem_map.1 hy
    exact ws_fit (h x hx)
  refine safeC_yes ?_ (by rw [List.length_map]) (List.all_eq_true.2 fun y hy => fit_sound (hm y hy).1) ⟨fun _ => some sort0, fun k s hs => ?_, ⟨sort0, rfl, SLe.refl rfl⟩, fun i x s hx hs => ?_, fun i x s k hx hs _ => ?_⟩
  · unfold formedC
    rw [decide_eq_true hg.1, decide_eq_true hg.2, List.length_map, decide_eq_true (show l.length ≤ 256 by omega)]
    simp only [Bool.true_and, Bool.and_true]
    exact List.all_eq_true.2 fun y hy => (hm y hy).1.form
  · cases hs; rfl
  · cases hs
    have hx := hm x (List.mem_of_getElem? hx)
    rw [aft0 hx.2.1 hx.2.2.1 hx.2.2.2]
  · cases hs
    have hx := hm x (List.mem_of_getElem? hx)
    rw [aft0 hx.2.1 hx.2.2.1 hx.2.2.2]
    exact ⟨sort0, rfl, SLe.refl rfl⟩

set_option linter.unusedSimpArgs false in
set_option maxRecDepth 100000 in
set_option maxHeartbeats 4000000 in
theorem walkNcodeWordsSafe {H : Type} {enc : TypeId × Value → H} (W : World) (base : Nat) {v0 : Value} {d0 : DataW H} {p0 : List MemPlace}
    (o0 : Value.okWide Try.prog W .any base 29 v0) (h0 : DataW.Trod enc Try.prog W 0 (fun _ => true) true 29 v0 d0 p0) :
    Calls Try.prog 8 #[v0] W fun e w' => e = .returned (.bool true) ∧ Below W.heap.size W w' := by
  obtain ⟨At, m, ct, tl, rfl, ht, -⟩ := open_i64s Try.underlying29 Try.underlying3 (by kernel_rfl) o0 h0
  clear h0 o0
  go_enter Try.func8, Try.ntmps8
  go_wp2_with fail
  refine (made_any At m ct tl _ ht).mono ?_
  rintro e w2 ⟨g2, l2, A2, c2, rfl, hr2, hl2, hg2, hfit2, hb2⟩
  have hB3 := keep_alloc hb2 (.cells #[.int .i64 g2, .slice A2 l2.length c2] 27)
  have hr3 := hr2.belowU (keep_alloc (Below.refl _ _) (.cells #[.int .i64 g2, .slice A2 l2.length c2] 27))
  have Y3 := Blk.new w2 #[.int .i64 g2, .slice A2 l2.length c2] 27
  have HSAFE := Lib.hid (safe_ws hg2 hl2 hfit2)
  have hWd := hb2.size
  clear hb2 hr2 hg2 hfit2
  go_wp2_with fail
  obtain ⟨dx, hdx⟩ : ∃ dx, w2.heap.size = dx := ⟨_, rfl⟩
  obtain ⟨w3, hw3⟩ : ∃ w3, w2.alloc (.cells #[.int .i64 g2, .slice A2 l2.length c2] 27) = w3 := ⟨_, rfl⟩
  rw [hw3] at hB3 hr3 Y3 ⊢
  rw [hdx] at Y3 hWd ⊢
  clear hw3 hdx
  obtain ⟨N, hN⟩ : ∃ N, l2.length = N := ⟨_, rfl⟩
  rw [hN] at hr3 Y3 hl2 ⊢
  have HNL := Lib.hid hN
  have hdx3 := Y3.lt
  clear hN
  go_loopw [4, 5] (fun s x wq => ∃ (k : Nat) (A' : Option Addr) (c' : Nat), k ≤ N ∧ x = .int .i64 k ∧ s = .slice A' k c' ∧ wq.ownsRow w3.heap.size 58 5 (.slice A' k c') k (((l2.take k).map wsI).flatMap insCells) ∧ Below w3.heap.size w3 wq) (fun _ x _ => N - (intOf x).toNat)
  case atStart => exact ⟨0, none, 0, Nat.zero_le _, rfl, rfl, World.ownsRow_nil _ _ _ _, Below.refl _ _⟩
  case round =>
    obtain ⟨k, A', c', hk, rfl, rfl, hown, hb⟩ := hrel
    have Y := Y3.below hb
    have q0 : wr.cell? ⟨dx, 0, none⟩ = some (.int .i64 g2) := Y.cell 0 _ rfl
    have q1 : wr.cell? ⟨dx, 1, none⟩ = some (.slice A2 N c2) := Y.cell 1 _ rfl
    by_cases hlt : k < N
    · obtain ⟨b0, off, x, rfl, hbb, hx, hc⟩ := (hr3.belowU hb).elem insCells_len (by omega) hlt
      have HX := Lib.hid hx
      obtain ⟨op, a, b, c, kk⟩ := x
      have d0 : wr.cell? ⟨b0, off + k * 5, none⟩ = some (.int .i64 op) := hc 0 _ rfl
      have d1 := hc 1 _ rfl
      have d2 := hc 2 _ rfl
      have d3 := hc 3 _ rfl
      have d4 := hc 4 _ rfl
      dsimp only at d1 d2 d3 d4
      have hk0 : (0 : Int) ≤ (k : Int) := by omega
      have hk1 : (k : Int) < (N : Int) := by omega
      have q1' : k + 1 ≤ maxLen := by unfold maxLen; omega
      have q2' : (k + 1) * 40 ≤ 140737488355328 := by omega
      clear hx hc Y
      by_cases hA : op = 13 ∧ b = 19
      · obtain ⟨rfl, rfl⟩ := hA
        have hbX := keep_alloc (Below.refl wr.heap.size wr) (.cells #[.int .i64 13, .int .i64 a, .int .i64 19, .int .i64 c, .int .u64 (U kk)] 58)
        have BX := Blk.new wr #[.int .i64 13, .int .i64 a, .int .i64 19, .int .i64 c, .int .u64 (U kk)] 58
        have x0 := BX.cell 0 _ rfl
        have x1 := BX.cell 1 _ rfl
        have x2 := BX.cell 2 _ rfl
        have x3 := BX.cell 3 _ rfl
        have x4 := BX.cell 4 _ rfl
        have xf := BX.free
        go_upto_region 11 with fail
        clear x0 x1 x2 x3 x4 xf hbX BX
        have hbY := keep_alloc (Below.refl wr.heap.size wr) (.cells #[.int .i64 13, .int .i64 a, .int .i64 4, .int .i64 c, .int .u64 (U kk)] 58)
        have BY := Blk.new wr #[.int .i64 13, .int .i64 a, .int .i64 4, .int .i64 c, .int .u64 (U kk)] 58
        obtain ⟨wY, hwY⟩ : ∃ wY, wr.alloc (.cells #[.int .i64 13, .int .i64 a, .int .i64 4, .int .i64 c, .int .u64 (U kk)] 58) = wY := ⟨_, rfl⟩
        rw [hwY] at hbY BY ⊢
        clear hwY
        have hownY := own_keep hown hbY
        have hbW := keep_below hbY hb
        have y0 := BY.cell 0 _ rfl
        have y1 := BY.cell 1 _ rfl
        have y2 := BY.cell 2 _ rfl
        have y3 := BY.cell 3 _ rfl
        have y4 := BY.cell 4 _ rfl
        have hfr := Reads.freshAt wY #[.int .i64 13, .int .i64 a, .int .i64 4, .int .i64 c, .int .u64 (U kk)] 58 5 1 [.int .i64 13, .int .i64 a, .int .i64 4, .int .i64 c, .int .u64 (U kk)] wY.heap.size rfl rfl rfl (by decide)
        have hsz := hbW.size
        have hsn : ((l2.take (k + 1)).map wsI).flatMap insCells = ((l2.take k).map wsI).flatMap insCells ++ [.int .i64 13, .int .i64 a, .int .i64 4, .int .i64 c, .int .u64 (U kk)] := by
          rw [take_nx HX.out, List.map_append, List.flatMap_append]; exact congrArg (fun z => _ ++ z) (show ([wsI _] : List NI).flatMap insCells = _ by rw [show wsI _ = ⟨13, a, 4, c, kk⟩ from by unfold wsI; rw [if_pos ⟨rfl, rfl⟩]]; rfl)
        have HSN := Lib.hid hsn
        clear hown hb BY hbY hsn
        go_wp2_with (at_builtin; go_loud (refine wpList_app rfl _ _ _ rfl tyRIns rfl (hownY.alloc _) rfl hfr (by simp [Value.oneCell']) q1' q2' (by simp; omega) ?_; intro v' w6 hown' hb'; obtain ⟨A3, c3, rfl, -⟩ := Reads.own hown'))
        go_roundw
        case rel => exact ⟨k + 1, A3, c3, by omega, by go_num, rfl, by rw [HSN.out]; exact hown', (hbW.alloc (by omega) _).trans hb'⟩
        case measure => simp [intOf]; omega
      by_cases hB11 : op = 11
      · subst hB11
        have hbX := keep_alloc (Below.refl wr.heap.size wr) (.cells #[.int .i64 11, .int .i64 a, .int .i64 b, .int .i64 c, .int .u64 (U kk)] 58)
        have BX := Blk.new wr #[.int .i64 11, .int .i64 a, .int .i64 b, .int .i64 c, .int .u64 (U kk)] 58
        have x0 := BX.cell 0 _ rfl
        have x1 := BX.cell 1 _ rfl
        have x2 := BX.cell 2 _ rfl
        have x3 := BX.cell 3 _ rfl
        have x4 := BX.cell 4 _ rfl
        have xf := BX.free
        go_upto_region 11 with fail
        clear x0 x1 x2 x3 x4 xf hbX BX
        have hbY := keep_alloc (Below.refl wr.heap.size wr) (.cells #[.int .i64 1, .int .i64 0, .int .i64 0, .int .i64 0, .int .u64 0] 58)
        have BY := Blk.new wr #[.int .i64 1, .int .i64 0, .int .i64 0, .int .i64 0, .int .u64 0] 58
        obtain ⟨wY, hwY⟩ : ∃ wY, wr.alloc (.cells #[.int .i64 1, .int .i64 0, .int .i64 0, .int .i64 0, .int .u64 0] 58) = wY := ⟨_, rfl⟩
        rw [hwY] at hbY BY ⊢
        clear hwY
        have hownY := own_keep hown hbY
        have hbW := keep_below hbY hb
        have y0 := BY.cell 0 _ rfl
        have y1 := BY.cell 1 _ rfl
        have y2 := BY.cell 2 _ rfl
        have y3 := BY.cell 3 _ rfl
        have y4 := BY.cell 4 _ rfl
        have hfr := Reads.freshAt wY #[.int .i64 1, .int .i64 0, .int .i64 0, .int .i64 0, .int .u64 0] 58 5 1 [.int .i64 1, .int .i64 0, .int .i64 0, .int .i64 0, .int .u64 0] wY.heap.size rfl rfl rfl (by decide)
        have hsz := hbW.size
        have hsn : ((l2.take (k + 1)).map wsI).flatMap insCells = ((l2.take k).map wsI).flatMap insCells ++ [.int .i64 1, .int .i64 0, .int .i64 0, .int .i64 0, .int .u64 0] := by
          rw [take_nx HX.out, List.map_append, List.flatMap_append]; exact congrArg (fun z => _ ++ z) (show ([wsI _] : List NI).flatMap insCells = _ by rw [show wsI _ = ⟨1, 0, 0, 0, 0⟩ from by unfold wsI; rw [if_neg (fun h => absurd h.1 (show ¬ (11 : Int) = 13 by decide)), if_pos (Or.inl rfl)]]; rfl)
        have HSN := Lib.hid hsn
        clear hown hb BY hbY hsn
        go_wp2_with (at_builtin; go_loud (refine wpList_app rfl _ _ _ rfl tyRIns rfl (hownY.alloc _) rfl hfr (by simp [Value.oneCell']) q1' q2' (by simp; omega) ?_; intro v' w6 hown' hb'; obtain ⟨A3, c3, rfl, -⟩ := Reads.own hown'))
        go_roundw
        case rel => exact ⟨k + 1, A3, c3, by omega, by go_num, rfl, by rw [HSN.out]; exact hown', (hbW.alloc (by omega) _).trans hb'⟩
        case measure => simp [intOf]; omega
      by_cases hB12 : op = 12
      · subst hB12
        have hbX := keep_alloc (Below.refl wr.heap.size wr) (.cells #[.int .i64 12, .int .i64 a, .int .i64 b, .int .i64 c, .int .u64 (U kk)] 58)
        have BX := Blk.new wr #[.int .i64 12, .int .i64 a, .int .i64 b, .int .i64 c, .int .u64 (U kk)] 58
        have x0 := BX.cell 0 _ rfl
        have x1 := BX.cell 1 _ rfl
        have x2 := BX.cell 2 _ rfl
        have x3 := BX.cell 3 _ rfl
        have x4 := BX.cell 4 _ rfl
        have xf := BX.free
        go_upto_region 11 with fail
        clear x0 x1 x2 x3 x4 xf hbX BX
        have hbY := keep_alloc (Below.refl wr.heap.size wr) (.cells #[.int .i64 1, .int .i64 0, .int .i64 0, .int .i64 0, .int .u64 0] 58)
        have BY := Blk.new wr #[.int .i64 1, .int .i64 0, .int .i64 0, .int .i64 0, .int .u64 0] 58
        obtain ⟨wY, hwY⟩ : ∃ wY, wr.alloc (.cells #[.int .i64 1, .int .i64 0, .int .i64 0, .int .i64 0, .int .u64 0] 58) = wY := ⟨_, rfl⟩
        rw [hwY] at hbY BY ⊢
        clear hwY
        have hownY := own_keep hown hbY
        have hbW := keep_below hbY hb
        have y0 := BY.cell 0 _ rfl
        have y1 := BY.cell 1 _ rfl
        have y2 := BY.cell 2 _ rfl
        have y3 := BY.cell 3 _ rfl
        have y4 := BY.cell 4 _ rfl
        have hfr := Reads.freshAt wY #[.int .i64 1, .int .i64 0, .int .i64 0, .int .i64 0, .int .u64 0] 58 5 1 [.int .i64 1, .int .i64 0, .int .i64 0, .int .i64 0, .int .u64 0] wY.heap.size rfl rfl rfl (by decide)
        have hsz := hbW.size
        have hsn : ((l2.take (k + 1)).map wsI).flatMap insCells = ((l2.take k).map wsI).flatMap insCells ++ [.int .i64 1, .int .i64 0, .int .i64 0, .int .i64 0, .int .u64 0] := by
          rw [take_nx HX.out, List.map_append, List.flatMap_append]; exact congrArg (fun z => _ ++ z) (show ([wsI _] : List NI).flatMap insCells = _ by rw [show wsI _ = ⟨1, 0, 0, 0, 0⟩ from by unfold wsI; rw [if_neg (fun h => absurd h.1 (show ¬ (12 : Int) = 13 by decide)), if_pos (Or.inr rfl)]]; rfl)
        have HSN := Lib.hid hsn
        clear hown hb BY hbY hsn
        go_wp2_with (at_builtin; go_loud (refine wpList_app rfl _ _ _ rfl tyRIns rfl (hownY.alloc _) rfl hfr (by simp [Value.oneCell']) q1' q2' (by simp; omega) ?_; intro v' w6 hown' hb'; obtain ⟨A3, c3, rfl, -⟩ := Reads.own hown'))
        go_roundw
        case rel => exact ⟨k + 1, A3, c3, by omega, by go_num, rfl, by rw [HSN.out]; exact hown', (hbW.alloc (by omega) _).trans hb'⟩
        case measure => simp [intOf]; omega
      by_cases hC : op = 13
      · subst hC
        have e19 : (b == 19) = false := beq_false_of_ne (fun e => hA ⟨rfl, e⟩)
        have e11 : ((13 : Int) == 11) = false := beq_false_of_ne hB11
        have e12 : ((13 : Int) == 12) = false := beq_false_of_ne hB12
        have HCX := Lib.hid (show wsI ⟨13, a, b, c, kk⟩ = ⟨13, a, b, c, kk⟩ by unfold wsI; rw [if_neg hA, if_neg (fun h => h.elim hB11 hB12)])
        have hbX := keep_alloc (Below.refl wr.heap.size wr) (.cells #[.int .i64 13, .int .i64 a, .int .i64 b, .int .i64 c, .int .u64 (U kk)] 58)
        have BX := Blk.new wr #[.int .i64 13, .int .i64 a, .int .i64 b, .int .i64 c, .int .u64 (U kk)] 58
        have x0 := BX.cell 0 _ rfl
        have x1 := BX.cell 1 _ rfl
        have x2 := BX.cell 2 _ rfl
        have x3 := BX.cell 3 _ rfl
        have x4 := BX.cell 4 _ rfl
        have xf := BX.free
        go_upto_region 11 with fail
        clear x0 x1 x2 x3 x4 xf hbX BX
        have hbY := keep_alloc (Below.refl wr.heap.size wr) (.cells #[.int .i64 13, .int .i64 a, .int .i64 b, .int .i64 c, .int .u64 (U kk)] 58)
        have BY := Blk.new wr #[.int .i64 13, .int .i64 a, .int .i64 b, .int .i64 c, .int .u64 (U kk)] 58
        obtain ⟨wY, hwY⟩ : ∃ wY, wr.alloc (.cells #[.int .i64 13, .int .i64 a, .int .i64 b, .int .i64 c, .int .u64 (U kk)] 58) = wY := ⟨_, rfl⟩
        rw [hwY] at hbY BY ⊢
        clear hwY
        have hownY := own_keep hown hbY
        have hbW := keep_below hbY hb
        have y0 := BY.cell 0 _ rfl
        have y1 := BY.cell 1 _ rfl
        have y2 := BY.cell 2 _ rfl
        have y3 := BY.cell 3 _ rfl
        have y4 := BY.cell 4 _ rfl
        have hfr := Reads.freshAt wY #[.int .i64 13, .int .i64 a, .int .i64 b, .int .i64 c, .int .u64 (U kk)] 58 5 1 [.int .i64 13, .int .i64 a, .int .i64 b, .int .i64 c, .int .u64 (U kk)] wY.heap.size rfl rfl rfl (by decide)
        have hsz := hbW.size
        have hsn : ((l2.take (k + 1)).map wsI).flatMap insCells = ((l2.take k).map wsI).flatMap insCells ++ [.int .i64 13, .int .i64 a, .int .i64 b, .int .i64 c, .int .u64 (U kk)] := by
          rw [take_nx HX.out, List.map_append, List.flatMap_append]; exact congrArg (fun z => _ ++ z) (show ([wsI _] : List NI).flatMap insCells = _ by rw [show wsI _ = ⟨13, a, b, c, kk⟩ from by exact HCX.out]; rfl)
        have HSN := Lib.hid hsn
        clear hown hb BY hbY hsn
        go_wp2_with (at_builtin; go_loud (refine wpList_app rfl _ _ _ rfl tyRIns rfl (hownY.alloc _) rfl hfr (by simp [Value.oneCell']) q1' q2' (by simp; omega) ?_; intro v' w6 hown' hb'; obtain ⟨A3, c3, rfl, -⟩ := Reads.own hown'))
        go_roundw
        case rel => exact ⟨k + 1, A3, c3, by omega, by go_num, rfl, by rw [HSN.out]; exact hown', (hbW.alloc (by omega) _).trans hb'⟩
        case measure => simp [intOf]; omega
      · have e13 : (op == 13) = false := beq_false_of_ne hC
        have e11 : (op == 11) = false := beq_false_of_ne hB11
        have e12 : (op == 12) = false := beq_false_of_ne hB12
        have HCX := Lib.hid (show wsI ⟨op, a, b, c, kk⟩ = ⟨op, a, b, c, kk⟩ by unfold wsI; rw [if_neg hA, if_neg (fun h => h.elim hB11 hB12)])
        have hbX := keep_alloc (Below.refl wr.heap.size wr) (.cells #[.int .i64 op, .int .i64 a, .int .i64 b, .int .i64 c, .int .u64 (U kk)] 58)
        have BX := Blk.new wr #[.int .i64 op, .int .i64 a, .int .i64 b, .int .i64 c, .int .u64 (U kk)] 58
        have x0 := BX.cell 0 _ rfl
        have x1 := BX.cell 1 _ rfl
        have x2 := BX.cell 2 _ rfl
        have x3 := BX.cell 3 _ rfl
        have x4 := BX.cell 4 _ rfl
        have xf := BX.free
        go_upto_region 11 with fail
        clear x0 x1 x2 x3 x4 xf hbX BX
        have hbY := keep_alloc (Below.refl wr.heap.size wr) (.cells #[.int .i64 op, .int .i64 a, .int .i64 b, .int .i64 c, .int .u64 (U kk)] 58)
        have BY := Blk.new wr #[.int .i64 op, .int .i64 a, .int .i64 b, .int .i64 c, .int .u64 (U kk)] 58
        obtain ⟨wY, hwY⟩ : ∃ wY, wr.alloc (.cells #[.int .i64 op, .int .i64 a, .int .i64 b, .int .i64 c, .int .u64 (U kk)] 58) = wY := ⟨_, rfl⟩
        rw [hwY] at hbY BY ⊢
        clear hwY
        have hownY := own_keep hown hbY
        have hbW := keep_below hbY hb
        have y0 := BY.cell 0 _ rfl
        have y1 := BY.cell 1 _ rfl
        have y2 := BY.cell 2 _ rfl
        have y3 := BY.cell 3 _ rfl
        have y4 := BY.cell 4 _ rfl
        have hfr := Reads.freshAt wY #[.int .i64 op, .int .i64 a, .int .i64 b, .int .i64 c, .int .u64 (U kk)] 58 5 1 [.int .i64 op, .int .i64 a, .int .i64 b, .int .i64 c, .int .u64 (U kk)] wY.heap.size rfl rfl rfl (by decide)
        have hsz := hbW.size
        have hsn : ((l2.take (k + 1)).map wsI).flatMap insCells = ((l2.take k).map wsI).flatMap insCells ++ [.int .i64 op, .int .i64 a, .int .i64 b, .int .i64 c, .int .u64 (U kk)] := by
          rw [take_nx HX.out, List.map_append, List.flatMap_append]; exact congrArg (fun z => _ ++ z) (show ([wsI _] : List NI).flatMap insCells = _ by rw [show wsI _ = ⟨op, a, b, c, kk⟩ from by exact HCX.out]; rfl)
        have HSN := Lib.hid hsn
        clear hown hb BY hbY hsn
        go_wp2_with (at_builtin; go_loud (refine wpList_app rfl _ _ _ rfl tyRIns rfl (hownY.alloc _) rfl hfr (by simp [Value.oneCell']) q1' q2' (by simp; omega) ?_; intro v' w6 hown' hb'; obtain ⟨A3, c3, rfl, -⟩ := Reads.own hown'))
        go_roundw
        case rel => exact ⟨k + 1, A3, c3, by omega, by go_num, rfl, by rw [HSN.out]; exact hown', (hbW.alloc (by omega) _).trans hb'⟩
        case measure => simp [intOf]; omega
    · have hkn : k = N := by omega
      subst hkn
      rw [List.take_of_length_le (by rw [HNL.out]; omega)] at hown
      have f1 := Y.free
      have hB4 := (keep_below hb hB3).setCell (p := ⟨dx, 1, none⟩) hWd (.slice A' k c')
      have hown2 := ownsRow_setCell_below hown (a := ⟨dx, 1, none⟩) (by show dx < _; omega) (.slice A' k c')
      obtain ⟨A3, c3, e3, hr4⟩ := Reads.own hown2
      injection e3 with x1 x2 x3
      subst x1 x3
      have Y4 := Y.set 1 (.slice A' k c')
      have HR4 := Lib.hid hr4
      clear hown hown2 hr4
      go_wp2_with fail
      clear q0 q1 f1
      obtain ⟨w4, hw4⟩ : ∃ w4, wr.setCell ⟨dx, 1, none⟩ (.slice A' k c') = w4 := ⟨_, rfl⟩
      have hr4 := HR4.out
      rw [hw4] at hr4 Y4 hB4 ⊢
      clear hw4 HR4 hb Y
      refine (awake_any _).mono ?_
      rintro e wA ⟨rfl, hbA⟩
      have YA := Y4.below hbA
      have y0 := YA.cell 0 _ rfl
      have y1 := YA.cell 1 _ rfl
      have hrA := hr4.belowU hbA
      have hBA := keep_below hbA hB4
      obtain ⟨L, hL⟩ : ∃ L, l2.map wsI = L := ⟨_, rfl⟩
      have hLk : L.length = k := by rw [← hL, List.length_map]; exact HNL.out
      have hsafe := HSAFE.out
      rw [hL] at hsafe hrA
      have HS2 := Lib.hid hsafe
      clear hL hsafe hr4 Y4 hB4 YA HSAFE
      subst hLk
      go_wp2_with fail
      refine (given_any g2 A' _ c' L _ hrA (by omega)).mono ?_
      rintro e wG ⟨AG, cG, rfl, hrG, hbG⟩
      have hBG := keep_below hbG hBA
      go_wp2_with fail
      refine (safe_any g2 AG _ cG L _ hrG).mono ?_
      rw [HS2.out]
      rintro e wC ⟨rfl, hbC⟩
      go_wp2_with fail
      go_ret
      exact ⟨rfl, keep_below hbC hBG⟩
end Go.Proofs.Ytpmdgmgcbminaaa

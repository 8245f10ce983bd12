/- The contract of scope.Leave. -/
import Derived.Test.YtmcdhpbkhchpeaaScope22
import Derived.Test.YtmcdhpbkhchpeaaScopeRet
import Derived.Test.YtmcdhpbkhchpeaaScopeVar
namespace Go.Proofs.Ytmcdhpbkhchpeaa
open Go.ChangeShapes Go.WideShapes Go.RowKit Words

attribute [local go_sem] Oper.semAt_some

def leaveL (x : Lc) : Lc × Int := if x.valid = false then (Lc.nil, 1) else match (downto x.p x.p.length).find? (fun k => (scAt x.p k.val).base) with
  | none => (Lc.nil, 9)
  | some k => (cutL x k.val, 0)
theorem leaveL_arg {x : Lc} (h : x.valid = false) : leaveL x = (Lc.nil, 1) := by unfold leaveL; rw [if_pos h]
theorem leaveL_none {x : Lc} (h : x.valid = true) (hn : ∀ k ∈ downto x.p x.p.length, (scAt x.p k.val).base = false) : leaveL x = (Lc.nil, 9) := by
  unfold leaveL
  rw [if_neg (by rw [h]; decide), List.find?_eq_none.2 (fun k hk => by rw [hn k hk]; decide)]
theorem downto_prefix (P : List Sc) {k n : Nat} (h : k ≤ n) (hn : n ≤ P.length) : ∃ r, downto P n = downto P k ++ r := by
  induction n with
  | zero =>
    obtain rfl : k = 0 := by omega
    exact ⟨[], (List.append_nil _).symm⟩
  | succ n ih =>
    by_cases hk : k = n + 1
    · subst hk; exact ⟨[], by simp⟩
    · obtain ⟨r, hr⟩ := ih (by omega) (by omega)
      exact ⟨_, by rw [downto_succ P n (by omega), hr, List.append_assoc]⟩
theorem leaveL_at {x : Lc} (h : x.valid = true) {k : Nat} (hk : k ≤ x.p.length) {ini : List (Fin x.p.length)} {m : Fin x.p.length} (hd : ini ++ [m] = downto x.p k) (hi : ∀ j ∈ ini, (scAt x.p j.val).base = false) (hm : (scAt x.p m.val).base = true) : leaveL x = (cutL x m.val, 0) := by
  obtain ⟨r, hr⟩ := downto_prefix x.p hk (Nat.le_refl _)
  unfold leaveL
  have : (downto x.p x.p.length).find? (fun k => (scAt x.p k.val).base) = some m := by
    rw [hr, ← hd, List.append_assoc, List.find?_append, List.find?_eq_none.2 (fun j hj => by rw [hi j hj]; decide)]
    simp [hm]
  rw [if_neg (by rw [h]; decide), this]
theorem scAt_some (P : List Sc) (k : Fin P.length) : P[k.val]? = some (scAt P k.val) := by
  unfold scAt
  rw [List.getElem?_eq_getElem k.isLt]; rfl

theorem own_kept {A B : World} {row : Option Nat} {b s n : Nat} {e : TypeId} {v : Value} {xs : List Value} (h : A.ownsRow b e s v n xs) (hg : A.grownBy B row) (hr : ∀ r, row = some r → ∃ o : Obj, A.heap[r]? = some o ∧ o.isCells = false) : B.ownsRow b e s v n xs := by
  refine h.kept hg ?_
  rcases h.2 with ⟨rfl, -⟩ | ⟨g, cap, cur, rfl, -, hgc, -⟩
  · exact Or.inl rfl
  · right
    intro he
    obtain ⟨o, ho, hc⟩ := hr g he.symm
    rw [hgc] at ho
    cases ho
    cases hc
theorem lown_kept {A B : World} {row : Option Nat} {base : Nat} {As Ap Ai : Option Addr} {ns cs np cp ni ci : Nat} {S : List Sl} {P : List Sc} {I : List Int} (h : LOwn A base As ns cs Ap np cp Ai ni ci S P I) (hg : A.grownBy B row) (hr : ∀ r, row = some r → ∃ o : Obj, A.heap[r]? = some o ∧ o.isCells = false) :
    LOwn B base As ns cs Ap np cp Ai ni ci S P I := ⟨own_kept h.s hg hr, own_kept h.p hg hr, own_kept h.i hg hr⟩

set_option linter.unusedSimpArgs false in
set_option maxRecDepth 100000 in
set_option maxHeartbeats 8000000 in
theorem leave_in (As : Option Addr) (ns cs : Nat) (Ap : Option Addr) (np cp : Nat) (Ai : Option Addr) (ni ci : Nat) (S : List Sl) (P : List Sc) (I : List Int) (w : World) (h : LRd w As ns cs Ap np cp Ai ni ci S P I)
    (hs : ns ≤ 1000000) (hp : np ≤ 1000000) (hi : ni ≤ 1000000) :
    CallsIn Fence.wide 6 Try.prog 25 #[locV As ns cs Ap np cp Ai ni ci] w (RetLE w (leaveL ⟨S, P, I⟩)) := by
  obtain ⟨hS, hP, hI⟩ := h.lens
  have hB : Below w.heap.size w (((w.alloc (.cells #[.slice As ns cs, .slice Ap np cp, .slice Ai ni ci] 26)).alloc (.cells #[.slice none 0 0, .slice none 0 0, .slice none 0 0] 26)).alloc (.cells #[.int .i64 0] 27)) := keep_alloc (keep_alloc (loc_alloc w _ _ _ _) _) _
  have B0 := ((Blk.new w #[.slice As ns cs, .slice Ap np cp, .slice Ai ni ci] 26).alloc (.cells #[.slice none 0 0, .slice none 0 0, .slice none 0 0] 26)).alloc (.cells #[.int .i64 0] 27)
  have R0 := (Blk.newAt (w.alloc (.cells #[.slice As ns cs, .slice Ap np cp, .slice Ai ni ci] 26)) #[.slice none 0 0, .slice none 0 0, .slice none 0 0] 26 (w.heap.size + 1) (by simp)).alloc (.cells #[.int .i64 0] 27)
  have E0 := Blk.newAt ((w.alloc (.cells #[.slice As ns cs, .slice Ap np cp, .slice Ai ni ci] 26)).alloc (.cells #[.slice none 0 0, .slice none 0 0, .slice none 0 0] 26)) #[.int .i64 0] 27 (w.heap.size + 1 + 1) (by simp)
  have hh := h.belowU hB
  have hsz : (((w.alloc (.cells #[.slice As ns cs, .slice Ap np cp, .slice Ai ni ci] 26)).alloc (.cells #[.slice none 0 0, .slice none 0 0, .slice none 0 0] 26)).alloc (.cells #[.int .i64 0] 27)).heap.size = w.heap.size + 3 := by simp
  have HSZ := Lib.hid hsz
  have HS := Lib.hid hS
  have HP := Lib.hid hP
  have HI := Lib.hid hI
  have HHW := Lib.hid h
  have HHS := Lib.hid hs
  have HHP := Lib.hid hp
  have HHI := Lib.hid hi
  obtain ⟨vb, hvb⟩ : ∃ vb, validL S P I = vb := ⟨_, rfl⟩
  have HVB := Lib.hid hvb
  have b0 := B0.cell 0 _ rfl
  have b1 := B0.cell 1 _ rfl
  have b2 := B0.cell 2 _ rfl
  clear h hsz hs hp hi hvb hS hP hI
  refine callsIn_of_wp_marks Try.func25 rfl trivial ?_ rfl
  simp only [Try.ntmps25, List.size_toArray, List.length_cons, List.length_nil, Nat.reduceAdd, Nat.reduceSub, Array.replicate_succ, Array.replicate_zero, List.push_toArray, List.append_toArray, List.nil_append, List.cons_append]
  cases vb with
  | false =>
    have HR := Lib.hid (leaveL_arg (x := ⟨S, P, I⟩) HVB.out)
    gi_wp2_with (refine ⟨trivial, ?_⟩; gi_at_call 14; refine (callsIn_wide.2 (valid_any As ns cs Ap np cp Ai ni ci S P I _ hh)).mono ?_; rw [HVB.out]; rintro e w1 ⟨rfl, hb1⟩; have R1 := R0.below hb1; have E1 := E0.below hb1; have hB1 := keep_below hb1 hB; have r0 := R1.cell 0 _ rfl; have r1 := R1.cell 1 _ rfl; have r2 := R1.cell 2 _ rfl; have rf := R1.free; have e0 := E1.cell 0 _ rfl; have ef := E1.free)
    have G := (R1.put3 (.slice none 0 0) (.slice none 0 0) (.slice none 0 0)).far (p := ⟨w.heap.size + 1 + 1, 0, none⟩) (by show w.heap.size + 1 ≠ w.heap.size + 1 + 1; omega) (.int .i64 1)
    have g0 := G.cell 0 _ rfl
    have g1 := G.cell 1 _ rfl
    have g2 := G.cell 2 _ rfl
    have g3 := ((E1.far3 (show w.heap.size + 1 + 1 ≠ w.heap.size + 1 by omega) (.slice none 0 0) (.slice none 0 0) (.slice none 0 0)).set 0 (.int .i64 1)).cell 0 _ rfl
    have HBF := (keep_set3 hB1 (.slice none 0 0) (.slice none 0 0) (.slice none 0 0)).setCell (p := ⟨w.heap.size + 1 + 1, 0, none⟩) (by show w.heap.size ≤ w.heap.size + 1 + 1; omega) (.int .i64 1)
    refine ⟨.tuple #[locV none 0 0 none 0 0 none 0 0, .int .i64 1], by simp [results, Try.f25, go_sem, g0, g1, g2, g3], ?_⟩
    rw [HR.out]
    exact ⟨none, 0, none, 0, none, 0, rfl, LOwn.nil _ _, HBF⟩
  | true =>
    gi_wp2_with (refine ⟨trivial, ?_⟩; first
      | (gi_at_call 14; refine (callsIn_wide.2 (valid_any As ns cs Ap np cp Ai ni ci S P I _ hh)).mono ?_; rw [HVB.out]; rintro e w1 ⟨rfl, hb1⟩; have B1 := B0.below hb1; have R1 := R0.below hb1; have E1 := E0.below hb1; have hh1 := hh.belowU hb1; have hB1 := keep_below hb1 hB; have c1 := B1.cell 1 _ rfl)
      | (gi_at_call 46; refine (back_in Fence.wide _ trivial rfl Ap np cp _).mono ?_; rintro e w2 ⟨rfl, rfl⟩))
    have HVT := Lib.hid (show (⟨S, P, I⟩ : Lc).valid = true from HVB.out)
    have bN := Blk.new w1 #[.slice Ap np cp] 23
    have hba : Below w1.heap.size w1 (w1.alloc (.cells #[.slice Ap np cp] 23)) := keep_alloc (Below.refl _ _) _
    have B2 := B1.below hba
    have R2 := R1.below hba
    have E2 := E1.below hba
    have hh2 := hh1.belowU hba
    have hB2 := keep_below hba hB1
    have hsB : w1.heap.size < (w1.alloc (.cells #[.slice Ap np cp] 23)).heap.size := by simp
    clear b0 b1 b2 c1 B0 R0 E0 hh hB hb1 B1 R1 E1 hh1 hB1 hba
    obtain ⟨W0, hW0⟩ : ∃ W0, w1.alloc (.cells #[.slice Ap np cp] 23) = W0 := ⟨_, rfl⟩
    obtain ⟨Bs, hBs⟩ : ∃ Bs, w1.heap.size = Bs := ⟨_, rfl⟩
    rw [hW0, hBs] at bN hsB
    rw [hW0] at B2 R2 E2 hh2 hB2
    rw [hW0, hBs]
    clear hW0 hBs
    refine wpIn_rangeFunc_ownH rfl (by omega) (gf := 53) (lb := #[.pointer (some ⟨Bs, 0, none⟩)]) rfl trivial (enters_of Try.func53 (by kernel_rfl) rfl)
      (back_stops Fence.wide _ trivial rfl (by omega) Bs W0.heap.size Ap np cp P W0 hsB (Nat.le_refl _) (bN.cell 0 _ rfl) hh2.p) belowK_t (belowK_b (Nat.le_refl _)) (Below.refl _ _) (fun _ => rfl)
      (fun pre W => ((∀ k ∈ pre, (scAt P k.val).base = false) ∧ Blk W w.heap.size 26 #[.slice As ns cs, .slice Ap np cp, .slice Ai ni ci] ∧ Blk W (w.heap.size + 1) 26 #[.slice none 0 0, .slice none 0 0, .slice none 0 0] ∧ Blk W (w.heap.size + 1 + 1) 27 #[.int .i64 0] ∧ W0.heap.size ≤ W.heap.size) ∧ Below w.heap.size w W)
      (fun c pre W => (c = .ret ∧ ∃ (ini : List (Fin P.length)) (m : Fin P.length), pre = ini ++ [m] ∧ (∀ k ∈ ini, (scAt P k.val).base = false) ∧ (scAt P m.val).base = true ∧ ∃ (f : Nat) (A1 : Option Addr) (c1 : Nat) (A2 : Option Addr) (c2 : Nat) (A3 : Option Addr) (c3 : Nat), (scAt P m.val).from_ = (f : Int) ∧ Blk W (w.heap.size + 1) 26 #[.slice A1 f c1, .slice A2 m.val c2, .slice A3 ni c3] ∧ Blk W (w.heap.size + 1 + 1) 27 #[.int .i64 0] ∧ LOwn W w.heap.size A1 f c1 A2 m.val c2 A3 ni c3 (S.take f) (P.take m.val) I) ∧ Below w.heap.size w W)
      (OwnFrom.and (Own.from (fun s A B row hs hg hr => ⟨hs.1, blk_kept hs.2.1 hg hr, blk_kept hs.2.2.1 hg hr, blk_kept hs.2.2.2.1 hg hr, Nat.le_trans hs.2.2.2.2 hg.size⟩) _) (ownFrom_below (Nat.le_refl _) hB2.size))
      (fun c => OwnFrom.and (Own.from (fun s A B row hs hg hr => by
        obtain ⟨hc, ini, m, z1, z2, z3, f, A1, c1, A2, c2, A3, c3, z4, z5, z6, z7⟩ := hs
        exact ⟨hc, ini, m, z1, z2, z3, f, A1, c1, A2, c2, A3, c3, z4, blk_kept z5 hg hr, blk_kept z6 hg hr, lown_kept z7 hg hr⟩) _) (ownFrom_below (Nat.le_refl _) hB2.size))
      ⟨⟨(fun k hk => by cases hk), B2, R2, E2, Nat.le_refl _⟩, hB2⟩
      (fun x a' W => ∃ Bx, Blk W Bx 59 #[.int .i64 (scAt P x.val).from_, .int .i64 (scAt P x.val).cap, .bool (scAt P x.val).base] ∧ a' = { tmps := #[locV As ns cs Ap np cp Ai ni ci, .pointer (some ⟨w.heap.size, 0, none⟩), .pointer (some ⟨w.heap.size + 1, 0, none⟩), .pointer (some ⟨w.heap.size + 1 + 1, 0, none⟩), .int .i64 (x.val : Int), .pointer (some ⟨Bx, 0, none⟩), .agg #[.slice As ns cs, .slice Ap np cp, .slice Ai ni ci], .bool true, .bool false, undef, .pointer (some ⟨w.heap.size, 1, none⟩), .slice Ap np cp, .func (.func 53) #[] #[.pointer (some ⟨Bs, 0, none⟩)], .int .i64 (x.val : Int), scV (scAt P x.val), undef, undef, undef, undef, undef, undef], defers := [] })
      (fun x a' _ X Y row hs hg hr => by obtain ⟨Bx, z2, z3⟩ := hs; exact ⟨Bx, blk_kept z2 hg (fun r e => (hr r e).2), z3⟩)
      ?assign ?body ?done ?stop
    case assign =>
      rintro l pre x W K ⟨⟨hp, hb, hrr, he, hsz⟩, hBW⟩ hK
      gi_wp2
      exact hK _ _ ((KeepsOthers.alloc _ _).from _) ((Below.refl _ W).alloc hsz _) ⟨⟨hp, hb.alloc _, hrr.alloc _, he.alloc _, by simp; omega⟩, hBW.alloc hBW.size _⟩ ⟨W.heap.size, Blk.new W _ _, rfl⟩
    case body =>
      rintro l pre x a' W hl ⟨r, hr⟩ ⟨⟨hp, hb, hrr, he, hsz⟩, hBW⟩ ⟨Bx, bX, rfl⟩ hlt
      have x2 := bX.cell 2 _ rfl
      cases hbase : (scAt P x.val).base with
      | false =>
        rw [hbase] at x2
        gi_wp2
        exact ⟨KeepsFrom.refl _ _, Below.refl _ _, ⟨fun k hk => (List.mem_append.1 hk).elim (hp k) (fun z => by rw [List.mem_singleton] at z; rw [z]; exact hbase), hb, hrr, he, hsz⟩, hBW⟩
      | true =>
        rw [hbase] at x2
        have hq := scAt_some P x
        obtain ⟨f, hf, hfn⟩ := valid_from HVT.out hq
        dsimp only at hfn
        rw [HS.out] at hfn
        have HF := Lib.hid hf
        have HQ := Lib.hid hq
        have hhW := HHW.out.belowU hBW
        have c0 := hb.cell 0 _ rfl
        have c1 := hb.cell 1 _ rfl
        have c2 := hb.cell 2 _ rfl
        have hgW : w.heap.size + 3 ≤ W.heap.size := by have := he.lt; omega
        clear hf hq
        gi_wp2_with (refine ⟨trivial, ?_⟩; gi_at_call 44; refine (CallsIn.inRound l (callsIn_wide.2 (closed_any As ns cs Ap np cp Ai ni ci S P I x.val f (scAt P x.val) _ hhW HHS.out HHP.out HHI.out HQ.out HF.out hfn))).mono ?_; rintro e w3 ⟨A1, k1, A2, k2, A3, k3, rfl, hown, hb3⟩; have R3 := hrr.below hb3; have E3 := he.below hb3; have r0 := R3.cell 0 _ rfl; have r1 := R3.cell 1 _ rfl; have r2 := R3.cell 2 _ rfl; have rf := R3.free; have e0 := E3.cell 0 _ rfl; have ef := E3.free)
        have G := (R3.put3 (.slice A1 f k1) (.slice A2 x.val k2) (.slice A3 ni k3)).far (p := ⟨w.heap.size + 1 + 1, 0, none⟩) (by show w.heap.size + 1 ≠ w.heap.size + 1 + 1; omega) (.int .i64 0)
        have G3 := (E3.far3 (show w.heap.size + 1 + 1 ≠ w.heap.size + 1 by omega) (.slice A1 f k1) (.slice A2 x.val k2) (.slice A3 ni k3)).set 0 (.int .i64 0)
        have O4 := (((hown.far (a := ⟨w.heap.size + 1, 0, none⟩) (by show w.heap.size + 1 < _; omega) (.slice A1 f k1)).far (a := ⟨w.heap.size + 1, 1, none⟩) (by show w.heap.size + 1 < _; omega) (.slice A2 x.val k2)).far (a := ⟨w.heap.size + 1, 2, none⟩) (by show w.heap.size + 1 < _; omega) (.slice A3 ni k3)).far (a := ⟨w.heap.size + 1 + 1, 0, none⟩) (by show w.heap.size + 1 + 1 < _; omega) (.int .i64 0)
        have hKF : KeepsFrom W0.heap.size W w3 := ⟨hb3.size, fun k o _ hk _ => (hb3.block k (Array.getElem?_eq_some_iff.1 hk).1).trans hk⟩
        have hBF := (keep_set3 (keep_below hb3 hBW) (.slice A1 f k1) (.slice A2 x.val k2) (.slice A3 ni k3)).setCell (p := ⟨w.heap.size + 1 + 1, 0, none⟩) (by show w.heap.size ≤ w.heap.size + 1 + 1; omega) (.int .i64 0)
        exact ⟨(((hKF.trans ((KeepsOthers.setCell _ _ _).from _)).trans ((KeepsOthers.setCell _ _ _).from _)).trans ((KeepsOthers.setCell _ _ _).from _)).trans ((KeepsOthers.setCell _ _ _).from _),
          ⟨rfl, pre, x, rfl, hp, hbase, f, A1, k1, A2, k2, A3, k3, HF.out, G, G3, O4.rebase (by omega)⟩, hBF⟩
    case done =>
      rintro D ys W hD rfl ⟨⟨hp, hb, hrr, he, hsz⟩, hBW⟩ hK
      have r0 := hrr.cell 0 _ rfl
      have r1 := hrr.cell 1 _ rfl
      have r2 := hrr.cell 2 _ rfl
      have rf := hrr.free
      have e0 := he.cell 0 _ rfl
      have ef := he.free
      have HR := Lib.hid (leaveL_none (x := ⟨S, P, I⟩) HVT.out (fun k hk => hp k (by rw [← HP.out]; exact hk)))
      gi_wp2
      have G := (hrr.put3 (.slice none 0 0) (.slice none 0 0) (.slice none 0 0)).far (p := ⟨w.heap.size + 1 + 1, 0, none⟩) (by show w.heap.size + 1 ≠ w.heap.size + 1 + 1; omega) (.int .i64 9)
      have G3 := (he.far3 (show w.heap.size + 1 + 1 ≠ w.heap.size + 1 by omega) (.slice none 0 0) (.slice none 0 0) (.slice none 0 0)).set 0 (.int .i64 9)
      have HBF := (keep_set3 hBW (.slice none 0 0) (.slice none 0 0) (.slice none 0 0)).setCell (p := ⟨w.heap.size + 1 + 1, 0, none⟩) (by show w.heap.size ≤ w.heap.size + 1 + 1; omega) (.int .i64 9)
      have hK' := ((((KeepsOthers.setCell W ⟨w.heap.size + 1, 0, none⟩ (.slice none 0 0)).trans (KeepsOthers.setCell _ ⟨w.heap.size + 1, 1, none⟩ (.slice none 0 0))).trans (KeepsOthers.setCell _ ⟨w.heap.size + 1, 2, none⟩ (.slice none 0 0))).trans (KeepsOthers.setCell _ ⟨w.heap.size + 1 + 1, 0, none⟩ (.int .i64 9))).same D _ hK rfl
      refine ⟨by simp, .inl ⟨_, _, rfl, run_takeDeferred hK', ?_⟩⟩
      have g0 := cell_kept (G.cell 0 _ rfl) (grownBy_putObj' _ D (.deferred none)) (fun r e => by cases e; exact ⟨_, hK', rfl⟩)
      have g1 := cell_kept (G.cell 1 _ rfl) (grownBy_putObj' _ D (.deferred none)) (fun r e => by cases e; exact ⟨_, hK', rfl⟩)
      have g2 := cell_kept (G.cell 2 _ rfl) (grownBy_putObj' _ D (.deferred none)) (fun r e => by cases e; exact ⟨_, hK', rfl⟩)
      have g3 := cell_kept (G3.cell 0 _ rfl) (grownBy_putObj' _ D (.deferred none)) (fun r e => by cases e; exact ⟨_, hK', rfl⟩)
      refine ⟨.tuple #[locV none 0 0 none 0 0 none 0 0, .int .i64 9], by simp [results, Try.f25, go_sem, g0, g1, g2, g3], ?_⟩
      rw [HR.out]
      exact ⟨none, 0, none, 0, none, 0, rfl, LOwn.nil _ _, HBF.trans (belowK_b (w := w) (Nat.le_refl _) _ D _ _ (by have := hB2.size; omega) hK' rfl rfl)⟩
    case stop =>
      rintro D c pre W hD ⟨k, hk, rfl⟩ ⟨⟨rfl, ini, m, e1, e2, e3, f, A1, k1, A2, k2, A3, k3, hf, hG, hE, hL⟩, hBW⟩ hK
      gi_wp2
      refine ⟨by simp, .inl ⟨_, _, rfl, run_takeDeferred hK, ?_⟩⟩
      have g0 := cell_kept (hG.cell 0 _ rfl) (grownBy_putObj' _ D (.deferred none)) (fun r e => by cases e; exact ⟨_, hK, rfl⟩)
      have g1 := cell_kept (hG.cell 1 _ rfl) (grownBy_putObj' _ D (.deferred none)) (fun r e => by cases e; exact ⟨_, hK, rfl⟩)
      have g2 := cell_kept (hG.cell 2 _ rfl) (grownBy_putObj' _ D (.deferred none)) (fun r e => by cases e; exact ⟨_, hK, rfl⟩)
      have g3 := cell_kept (hE.cell 0 _ rfl) (grownBy_putObj' _ D (.deferred none)) (fun r e => by cases e; exact ⟨_, hK, rfl⟩)
      have hres : leaveL ⟨S, P, I⟩ = (⟨S.take f, P.take m.val, I⟩, 0) := by
        rw [leaveL_at (x := ⟨S, P, I⟩) HVT.out (k := k) (by dsimp only; rw [HP.out]; exact hk) (ini := ini) (m := m) e1.symm e2 e3]
        unfold cutL
        dsimp only
        rw [scAt_some P m]
        dsimp only
        rw [hf, Int.toNat_natCast]
      refine ⟨.tuple #[locV A1 f k1 A2 m.val k2 A3 ni k3, .int .i64 0], by simp [results, Try.f25, go_sem, g0, g1, g2, g3], ?_⟩
      exact RetLE.mk' hres (by rw [List.length_take, HS.out]; have := hL.s.1; rw [flat_len slCells 3 slCells_len, List.length_take, HS.out] at this; omega) (by rw [List.length_take]; have := m.isLt; omega) HI.out (lown_kept hL (grownBy_putObj' _ D (.deferred none)) (fun r e => by cases e; exact ⟨_, hK, rfl⟩)) (hBW.trans (belowK_b (w := w) (Nat.le_refl _) W D _ _ (by have := hB2.size; omega) hK rfl rfl))
theorem leave_any (As : Option Addr) (ns cs : Nat) (Ap : Option Addr) (np cp : Nat) (Ai : Option Addr) (ni ci : Nat) (S : List Sl) (P : List Sc) (I : List Int) (w : World) (h : LRd w As ns cs Ap np cp Ai ni ci S P I)
    (hs : ns ≤ 1000000) (hp : np ≤ 1000000) (hi : ni ≤ 1000000) :
    Calls Try.prog 25 #[locV As ns cs Ap np cp Ai ni ci] w (RetLE w (leaveL ⟨S, P, I⟩)) := callsIn_wide.1 (leave_in As ns cs Ap np cp Ai ni ci S P I w h hs hp hi)
end Go.Proofs.Ytmcdhpbkhchpeaa

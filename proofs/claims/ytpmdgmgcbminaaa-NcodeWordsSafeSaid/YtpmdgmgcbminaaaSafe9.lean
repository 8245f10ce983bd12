/- The program's result of a plain instruction. Printed by mk_safe9.py. -/
import Derived.Test.YtpmdgmgcbminaaaSafe8
import Derived.Test.YtpmdgmgcbminaaaApp
namespace Go.Proofs.Ytpmdgmgcbminaaa
open Go.ChangeShapes Go.WideShapes Go.RowKit Words

/-- what an instruction without jump or call computes, and whether it is allowed -/
def resS (op : Int) (b c : Srt) : Srt × Bool :=
  if op = 2 then (b, b.kind != 1)
  else if op = 3 then (if (b.kind == 0) && (c.kind == 2) then (c, true) else (b, ((b.kind == 0) && (c.kind == 0)) || ((b.kind == 2) && (c.kind == 0))))
  else if op = 4 then (if (b.kind == 2) && (c.kind == 0) then (b, true) else (.wd, ((b.kind == 0) && (c.kind == 0)) || (decide (b = c) && (b.kind == 2))))
  else if op = 5 ∨ op = 6 ∨ op = 7 then (.wd, (b.kind == 0) && (c.kind == 0))
  else if op = 8 then (.wd, ((b.kind == 0) && (c.kind == 0)) || (decide (b = c) && (b.kind == 2)))
  else if op = 11 then (.wd, b.kind == 2)
  else (.wd, true)

set_option linter.unusedSimpArgs false in
set_option maxRecDepth 100000 in
set_option maxHeartbeats 8000000 in
theorem result_any (s : List Srt) (op a b c : Int) (k : BitVec 64) (hb0 : 0 ≤ b) (hc0 : 0 ≤ c) (hc1 : c < 8) (p q : Srt) (hp : s[(b.tmod 8).toNat]? = some p) (hq : s[c.toNat]? = some q) (w : World) :
    Calls Try.prog 50 #[.agg (PS s), .agg #[.int .i64 op, .int .i64 a, .int .i64 b, .int .i64 c, .int .u64 (U k)]] w fun e w' => e = .returned (.tuple #[srtV (resS op p q).1, .bool (resS op p q).2]) ∧ Below w.heap.size w w' := by
  have hB : Below w.heap.size w (((w.alloc (.cells (PS s) 78)).alloc (.cells #[.int .i64 op, .int .i64 a, .int .i64 b, .int .i64 c, .int .u64 (U k)] 60)).alloc (.cells #[.int .i64 0, .int .i64 0] 76)) := keep_alloc (keep_alloc (keep_alloc (Below.refl _ _) _) _) _
  have B2 := ((Blk.new w (PS s) 78).alloc (.cells #[.int .i64 op, .int .i64 a, .int .i64 b, .int .i64 c, .int .u64 (U k)] 60)).alloc (.cells #[.int .i64 0, .int .i64 0] 76)
  have B3 := (Blk.newAt (w.alloc (.cells (PS s) 78)) #[.int .i64 op, .int .i64 a, .int .i64 b, .int .i64 c, .int .u64 (U k)] 60 (w.heap.size + 1) (by simp)).alloc (.cells #[.int .i64 0, .int .i64 0] 76)
  have B4 := Blk.newAt ((w.alloc (.cells (PS s) 78)).alloc (.cells #[.int .i64 op, .int .i64 a, .int .i64 b, .int .i64 c, .int .u64 (U k)] 60)) #[.int .i64 0, .int .i64 0] 76 (w.heap.size + 1 + 1) (by simp)
  have hm0 : 0 ≤ b.tmod 8 := Int.tmod_nonneg 8 hb0
  have hm1 : b.tmod 8 < 8 := Int.tmod_lt_of_pos b (by omega)
  obtain ⟨bn, hbn⟩ : ∃ bn : Nat, b.tmod 8 = bn := ⟨_, (Int.toNat_of_nonneg hm0).symm⟩
  obtain ⟨cn, rfl⟩ : ∃ cn : Nat, c = cn := ⟨_, (Int.toNat_of_nonneg hc0).symm⟩
  rw [hbn, Int.toNat_natCast] at hp
  rw [Int.toNat_natCast] at hq
  rw [hbn] at hm0 hm1
  have hbw : IntKind.i64.wrap (bn : Int) = (bn : Int) := IntWalk.i64_in _ (by omega)
  go_enter Try.func50, Try.ntmps50
  go_upto_region 1 with fail
  obtain ⟨w0, hw0⟩ : ∃ w0, ((w.alloc (.cells (PS s) 78)).alloc (.cells #[.int .i64 op, .int .i64 a, .int .i64 b, .int .i64 (cn : Nat), .int .u64 (U k)] 60)).alloc (.cells #[.int .i64 0, .int .i64 0] 76) = w0 := ⟨_, rfl⟩
  rw [hw0] at hB B2 B3 B4 ⊢
  clear hw0
  obtain ⟨g, hg⟩ : ∃ g, w.heap.size = g := ⟨_, rfl⟩
  rw [hg] at hB B2 B3 B4 ⊢
  have HA := Lib.hid hg
  clear hg
  obtain ⟨p0, p1⟩ := srt_far B2 hp
  obtain ⟨q0, q1⟩ := srt_far B2 hq
  have i2 := B3.cell 2 _ rfl
  have i3 := B3.cell 3 _ rfl
  have P0 : ∀ u, Below w0.heap.size w0 u → u.cell? ⟨g, bn * 2, none⟩ = some _ := fun u hu => keep_cell hu p0
  have P1 : ∀ u, Below w0.heap.size w0 u → u.cell? ⟨g, bn * 2 + 1, none⟩ = some _ := fun u hu => keep_cell hu p1
  have Q0 : ∀ u, Below w0.heap.size w0 u → u.cell? ⟨g, cn * 2, none⟩ = some _ := fun u hu => keep_cell hu q0
  have Q1 : ∀ u, Below w0.heap.size w0 u → u.cell? ⟨g, cn * 2 + 1, none⟩ = some _ := fun u hu => keep_cell hu q1
  have I2 : ∀ u, Below w0.heap.size w0 u → u.cell? ⟨g + 1, 2, none⟩ = some _ := fun u hu => keep_cell hu i2
  have I3 : ∀ u, Below w0.heap.size w0 u → u.cell? ⟨g + 1, 3, none⟩ = some _ := fun u hu => keep_cell hu i3
  clear p0 p1 q0 q1 i2 i3
  go_cut [6, 7] from 10 to 18 (fun s6 s7 wx => ∃ d6 d7 : Nat, s6 = .pointer (some ⟨d6, 0, none⟩) ∧ s7 = .pointer (some ⟨d7, 0, none⟩) ∧ Blk wx d6 76 #[.int .i64 p.kind, .int .i64 p.at_] ∧ Blk wx d7 76 #[.int .i64 q.kind, .int .i64 q.at_] ∧ g + 1 + 1 < d6 ∧ g + 1 + 1 < d7 ∧ Below w0.heap.size w0 wx)
  case first => as_aux_lemma =>
    go_region_held3 (fun w' => Below w0.heap.size w0 w') (first | assumption | exact (Below.refl _ _).drew | exact keep_alloc (by first | assumption | exact Below.refl _ _ | exact (Below.refl _ _).drew) _ | exact keep_alloc (keep_alloc (Below.refl _ _).drew _) _) (first | fail)
    all_goals
      go_wp2_with fail
      go_meet
      have hg4 := B4.lt
      refine ⟨_, _, rfl, rfl, ?_, ?_, by first | omega | (simp; omega), by first | omega | (simp; omega), ?_⟩
      · first | exact ((Blk.new _ _ _).alloc _).drew | exact (Blk.newAt _ _ _ _ (by simp)).drew
      · first | exact ((Blk.new _ _ _).alloc _).drew | exact (Blk.newAt _ _ _ _ (by simp)).drew
      · exact (keep_alloc (keep_alloc (Below.refl _ _) _) _).drew
  case rest =>
    obtain ⟨d6, d7, rfl, rfl, B6, B7, hd6, hd7, hbc⟩ := hcut
    have B3c := B3.below hbc
    have B4c := B4.below hbc
    have hBc := keep_belowA hbc hB (by have := B4.lt; omega)
    clear P0 P1 Q0 Q1 I2 I3 B2 B3 B4 hB hbc
    obtain ⟨g4, hg4⟩ : ∃ g4, g + 1 + 1 = g4 := ⟨_, rfl⟩
    have hgg : g ≤ g4 := by omega
    rw [hg4] at B4c hd6 hd7 ⊢
    clear hg4
    have heq : ∀ w', (Op.equalIn 10000 76 (.agg #[.int .i64 p.kind, .int .i64 p.at_]) (.agg #[.int .i64 q.kind, .int .i64 q.at_])).run Try.prog w' = .ok (decide (p = q)) w' := fun w' => srt_eq 9998 p q w'
    obtain ⟨e, he⟩ : ∃ e, decide (p = q) = e := ⟨_, rfl⟩
    obtain ⟨zp, hzp⟩ : ∃ r, (p.kind == 0) = r := ⟨_, rfl⟩
    obtain ⟨zq, hzq⟩ : ∃ r, (q.kind == 0) = r := ⟨_, rfl⟩
    obtain ⟨rp, hrp⟩ : ∃ r, (p.kind == 2) = r := ⟨_, rfl⟩
    obtain ⟨rq, hrq⟩ : ∃ r, (q.kind == 2) = r := ⟨_, rfl⟩
    obtain ⟨np, hnp⟩ : ∃ r, (p.kind != 1) = r := ⟨_, rfl⟩
    rw [he] at heq
    have x0 := B6.cell 0 _ rfl
    have x1 := B6.cell 1 _ rfl
    have y0 := B7.cell 0 _ rfl
    have y1 := B7.cell 1 _ rfl
    have i0 := B3c.cell 0 _ rfl
    have HE := Lib.hid he
    have B6h := Lib.hid B6
    have B7h := Lib.hid B7
    clear he B6 B7
    go_upto_region 2 with fail
    go_cut [8] from 19 to 26 (fun s8 wx => s8 = .bool (zp && zq) ∧ wc = wx)
    case first => as_aux_lemma =>
      cases zp
      all_goals
        go_wp2_with fail
        go_meet
        exact ⟨rfl, rfl⟩
    case rest =>
    obtain ⟨rfl, rfl⟩ := hcut
    go_upto_region 3 with fail
    go_cut [9] from 27 to 34 (fun s9 wx => s9 = .bool (e && rp) ∧ wc = wx)
    case first => as_aux_lemma =>
      cases e
      all_goals
        go_wp2_with fail
        go_meet
        exact ⟨rfl, rfl⟩
    case rest =>
    obtain ⟨rfl, rfl⟩ := hcut
    clear heq
    obtain ⟨wv, hwv⟩ : ∃ v, (zp && zq) = v := ⟨_, rfl⟩
    obtain ⟨ov, hov⟩ : ∃ v, (e && rp) = v := ⟨_, rfl⟩
    rw [hwv, hov]
    have hres : resS op p q = (if op = 2 then (p, np)
      else if op = 3 then (if zp && rq then (q, true) else (p, wv || (rp && zq)))
      else if op = 4 then (if rp && zq then (p, true) else (.wd, wv || ov))
      else if op = 5 ∨ op = 6 ∨ op = 7 then (.wd, wv)
      else if op = 8 then (.wd, wv || ov)
      else if op = 11 then (.wd, rp)
      else (.wd, true)) := by
      unfold resS
      rw [hzp, hzq, hrp, hrq, hnp, HE.out, hwv, hov]
    clear hov
    have HR := Lib.hid hres
    clear hres
    have f4 := B4c.free
    have c40 := B4c.cell 0 _ rfl
    have c41 := B4c.cell 1 _ rfl
    have hfin : ∀ (r : Srt) (v : Bool), resS op p q = (r, v) → ∀ a', a'.defers = [] → a'.tmps[4]?.getD undef = .pointer (some ⟨g4, 0, none⟩) → a'.tmps[5]?.getD undef = .bool v → ∀ wz, (wz = ((wc.setCell ⟨g4, 0, none⟩ (.int .i64 r.kind)).setCell ⟨g4, 1, none⟩ (.int .i64 r.at_)) ∨ wz = ((wc.setCell ⟨g4, 0, none⟩ (.int .i64 r.kind)).setCell ⟨g4, 1, none⟩ (.int .i64 r.at_)).drew) →
        bodyPost Try.prog Try.f50 (fun e w' => e = .returned (.tuple #[srtV (resS op p q).1, .bool (resS op p q).2]) ∧ Below w.heap.size w w') .ret a' wz := by
      intro r v hr a' hdef h4 h5 wz hwz
      have G : Blk wz g4 76 #[.int .i64 r.kind, .int .i64 r.at_] := by
        rcases hwz with rfl | rfl
        · exact (B4c.set 0 (.int .i64 r.kind)).set 1 (.int .i64 r.at_)
        · exact ((B4c.set 0 (.int .i64 r.kind)).set 1 (.int .i64 r.at_)).drew
      have z0 := G.cell 0 _ rfl
      have z1 := G.cell 1 _ rfl
      have hbz : Below g w wz := by
        rcases hwz with rfl | rfl
        · exact (hBc.setCell (p := ⟨g4, 0, none⟩) hgg _).setCell (p := ⟨g4, 1, none⟩) hgg _
        · exact ((hBc.setCell (p := ⟨g4, 0, none⟩) hgg _).setCell (p := ⟨g4, 1, none⟩) hgg _).drew
      rw [hr]
      refine bodyPost_ret (v := .tuple #[.agg #[.int .i64 r.kind, .int .i64 r.at_], .bool v]) ?_ hdef ⟨rfl, by rw [HA.out]; exact hbz⟩
      have hlv : (loadVar 76 ⟨g4, 0, none⟩).run Try.prog wz = .ok (.agg #[.int .i64 r.kind, .int .i64 r.at_]) wz := run_loadVar_row wz g4 76 76 #[.int .i64 r.kind, .int .i64 r.at_] (0, 0) _ G Try.underlying76 rfl (by kernel_rfl)
      simp [results, Try.results50, h4, h5, asAddr, hlv]
    have HF := Lib.hid hfin
    have n46 : g4 ≠ d6 := by omega
    have n47 : g4 ≠ d7 := by omega
    clear hfin hBc hd6 hd7 hgg hm0 hm1 hbw hbn hp hq hb0 hc0 hc1 i0 B4c
    have i0 := B3c.cell 0 _ rfl
    by_cases h2 : op = 2
    · subst h2
      have hr := HR.out
      rw [if_pos rfl] at hr
      have HR2 := Lib.hid hr
      clear hr HR
      go_upto_region 6 with fail
      go_region_held3 (fun w' => w'.cell? ⟨d6, 0, none⟩ = some (.int .i64 p.kind) ∧ w'.cell? ⟨d6, 1, none⟩ = some (.int .i64 p.at_) ∧ w'.cell? ⟨d7, 0, none⟩ = some (.int .i64 q.kind)) (first | exact ⟨x0, x1, y0⟩ | (go_split_ands; refine ⟨?_, ?_, ?_⟩ <;> first | assumption | exact cell_far n46 (by first | assumption | exact cell_far n46 (by assumption)) | exact cell_far n47 (by first | assumption | exact cell_far n47 (by assumption)))) (first | fail)
      all_goals as_aux_lemma =>
        go_wp2_with fail
        exact HF.out p np HR2.out _ rfl rfl rfl _ (by first | exact Or.inl rfl | exact Or.inr rfl)
    have t2 : (op == 2) = false := beq_false_of_ne h2
    by_cases h3 : op = 3
    · subst h3
      have hr := HR.out
      rw [if_neg (by decide), if_pos rfl] at hr
      cases zp with
      | true =>
        cases rq with
        | true =>
          have HR2 := Lib.hid hr
          clear hr HR hwv
          go_wp2_with fail
          exact HF.out _ _ HR2.out _ rfl rfl rfl _ (by first | exact Or.inl rfl | exact Or.inr rfl)
        | false =>
          cases wv with
          | true =>
            have HR2 := Lib.hid hr
            clear hr HR hwv
            go_upto_region 10 with fail
            go_region
            go_wp2_with fail
            exact HF.out _ _ HR2.out _ rfl rfl rfl _ (by first | exact Or.inl rfl | exact Or.inr rfl)
          | false =>
            cases rp with
            | true =>
              have HR2 := Lib.hid hr
              clear hr HR hwv
              go_upto_region 10 with fail
              go_region
              go_wp2_with fail
              exact HF.out _ _ HR2.out _ rfl rfl rfl _ (by first | exact Or.inl rfl | exact Or.inr rfl)
            | false =>
              have HR2 := Lib.hid hr
              clear hr HR hwv
              go_upto_region 10 with fail
              go_region
              go_wp2_with fail
              exact HF.out _ _ HR2.out _ rfl rfl rfl _ (by first | exact Or.inl rfl | exact Or.inr rfl)
      | false =>
        cases wv with
        | true => cases hwv
        | false =>
          cases rp with
          | true =>
            have HR2 := Lib.hid hr
            clear hr HR hwv
            go_upto_region 10 with fail
            go_region
            go_wp2_with fail
            exact HF.out _ _ HR2.out _ rfl rfl rfl _ (by first | exact Or.inl rfl | exact Or.inr rfl)
          | false =>
            have HR2 := Lib.hid hr
            clear hr HR hwv
            go_upto_region 10 with fail
            go_region
            go_wp2_with fail
            exact HF.out _ _ HR2.out _ rfl rfl rfl _ (by first | exact Or.inl rfl | exact Or.inr rfl)
    have t3 : (op == 3) = false := beq_false_of_ne h3
    by_cases h4 : op = 4
    · subst h4
      have hr := HR.out
      rw [if_neg (by decide), if_neg (by decide), if_pos rfl] at hr
      cases rp <;> cases zq <;> cases wv
      all_goals
        have HR2 := Lib.hid hr
        clear hr HR hwv
        go_wp2_with fail
        exact HF.out _ _ HR2.out _ rfl rfl rfl _ (by first | exact Or.inl rfl | exact Or.inr rfl)
    have t4 : (op == 4) = false := beq_false_of_ne h4
    by_cases h5 : op = 5 ∨ op = 6 ∨ op = 7
    · have hr := HR.out
      rw [if_neg h2, if_neg h3, if_neg h4, if_pos h5] at hr
      have HR2 := Lib.hid hr
      clear hr HR h2 h3 h4 t2 t3 t4
      rcases h5 with rfl | rfl | rfl
      all_goals
        go_wp2_with fail
        exact HF.out _ _ HR2.out _ rfl rfl rfl _ (by first | exact Or.inl rfl | exact Or.inr rfl)
    have t5 : (op == 5) = false := beq_false_of_ne (fun h => h5 (Or.inl h))
    have t6 : (op == 6) = false := beq_false_of_ne (fun h => h5 (Or.inr (Or.inl h)))
    have t7 : (op == 7) = false := beq_false_of_ne (fun h => h5 (Or.inr (Or.inr h)))
    by_cases h8 : op = 8
    · subst h8
      have hr := HR.out
      rw [if_neg h2, if_neg h3, if_neg h4, if_neg h5, if_pos rfl] at hr
      cases wv
      all_goals
        have HR2 := Lib.hid hr
        clear hr HR
        go_wp2_with fail
        exact HF.out _ _ HR2.out _ rfl rfl rfl _ (by first | exact Or.inl rfl | exact Or.inr rfl)
    have t8 : (op == 8) = false := beq_false_of_ne h8
    by_cases h11 : op = 11
    · subst h11
      have hr := HR.out
      rw [if_neg h2, if_neg h3, if_neg h4, if_neg h5, if_neg h8, if_pos rfl] at hr
      have HR2 := Lib.hid hr
      clear hr HR
      go_upto_region 22 with fail
      go_region_held3 (fun w' => w'.cell? ⟨d6, 0, none⟩ = some (.int .i64 p.kind) ∧ w'.cell? ⟨d6, 1, none⟩ = some (.int .i64 p.at_) ∧ w'.cell? ⟨d7, 0, none⟩ = some (.int .i64 q.kind)) (first | exact ⟨x0, x1, y0⟩ | (go_split_ands; refine ⟨?_, ?_, ?_⟩ <;> first | assumption | exact cell_far n46 (by first | assumption | exact cell_far n46 (by assumption)) | exact cell_far n47 (by first | assumption | exact cell_far n47 (by assumption)))) (first | fail)
      all_goals as_aux_lemma =>
        go_wp2_with fail
        exact HF.out _ _ HR2.out _ rfl rfl rfl _ (by first | exact Or.inl rfl | exact Or.inr rfl)
    have t11 : (op == 11) = false := beq_false_of_ne h11
    have hr := HR.out
    rw [if_neg h2, if_neg h3, if_neg h4, if_neg h5, if_neg h8, if_neg h11] at hr
    have HR2 := Lib.hid hr
    clear hr HR h2 h3 h4 h5 h8 h11
    go_wp2_with fail
    exact HF.out _ _ HR2.out _ rfl rfl rfl _ (by first | exact Or.inl rfl | exact Or.inr rfl)
end Go.Proofs.Ytpmdgmgcbminaaa

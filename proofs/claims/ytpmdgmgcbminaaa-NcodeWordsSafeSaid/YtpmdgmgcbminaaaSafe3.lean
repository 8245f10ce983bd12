/- The reference's join of sorts. Printed by mk_safe3.py. -/
import Derived.Test.YtpmdgmgcbminaaaSafe2
namespace Go.Proofs.Ytpmdgmgcbminaaa
open Go.ChangeShapes Go.WideShapes Go.RowKit Words

/-- the reference's join, of numbers -/
def joinI (s t : List Int) : List Int := s.mapIdx (fun i x => if x = -1 then t[i]?.getD 0 else if t[i]? ≠ some (-1) ∧ t[i]? ≠ some x then 1 else x)

set_option linter.unusedSimpArgs false in
set_option maxHeartbeats 4000000 in
theorem rjoin_any (s t : List Int) (hs : s.length = 8) (ht : t.length = 8) (w : World) :
    Calls Try.prog 41 #[.agg (IS s), .agg (IS t)] w fun e w' => e = .returned (.agg (IS (joinI s t))) ∧ Below w.heap.size w w' := by
  have hB : Below w.heap.size w (((w.alloc (.cells (IS s) 86)).alloc (.cells (IS t) 86)).alloc (.cells #[.int .i64 0, .int .i64 0, .int .i64 0, .int .i64 0, .int .i64 0, .int .i64 0, .int .i64 0, .int .i64 0] 86)) := keep_alloc (keep_alloc (keep_alloc (Below.refl _ _) _) _) _
  have B2 := ((Blk.new w (IS s) 86).alloc (.cells (IS t) 86)).alloc (.cells #[.int .i64 0, .int .i64 0, .int .i64 0, .int .i64 0, .int .i64 0, .int .i64 0, .int .i64 0, .int .i64 0] 86)
  have B3 := (Blk.newAt (w.alloc (.cells (IS s) 86)) (IS t) 86 (w.heap.size + 1) (by simp)).alloc (.cells #[.int .i64 0, .int .i64 0, .int .i64 0, .int .i64 0, .int .i64 0, .int .i64 0, .int .i64 0, .int .i64 0] 86)
  have B4 := Blk.newAt ((w.alloc (.cells (IS s) 86)).alloc (.cells (IS t) 86)) #[.int .i64 0, .int .i64 0, .int .i64 0, .int .i64 0, .int .i64 0, .int .i64 0, .int .i64 0, .int .i64 0] 86 (w.heap.size + 1 + 1) (by simp)
  go_enter Try.func41, Try.ntmps41
  go_wp2_with fail
  obtain ⟨w0, hw0⟩ : ∃ w0, ((w.alloc (.cells (IS s) 86)).alloc (.cells (IS t) 86)).alloc (.cells #[.int .i64 0, .int .i64 0, .int .i64 0, .int .i64 0, .int .i64 0, .int .i64 0, .int .i64 0, .int .i64 0] 86) = w0 := ⟨_, rfl⟩
  rw [hw0] at hB B2 B3 B4 ⊢
  clear hw0
  obtain ⟨a, ha⟩ : ∃ a, w.heap.size = a := ⟨_, rfl⟩
  rw [ha] at hB B2 B3 B4 ⊢
  have HA := Lib.hid ha
  clear ha
  go_loopw [5] (fun x wq => ∃ (i : Nat) (u : List Int), i ≤ 8 ∧ x = .int .i64 i ∧ Part (fun i x => if x = -1 then t[i]?.getD 0 else if t[i]? ≠ some (-1) ∧ t[i]? ≠ some x then 1 else x) s i u ∧ Blk wq a 86 (IS u) ∧ Blk wq (a + 1) 86 (IS t) ∧ Blk wq (a + 1 + 1) 86 #[.int .i64 0, .int .i64 0, .int .i64 0, .int .i64 0, .int .i64 0, .int .i64 0, .int .i64 0, .int .i64 0] ∧ Below a w wq ∧ a ≤ wq.heap.size) (fun x _ => 8 - (intOf x).toNat)
  case atStart => exact ⟨0, s, by omega, rfl, Part.start, B2, B3, B4, hB, by have := B2.lt; omega⟩
  case round =>
    clear hB B2 B3 B4
    obtain ⟨i, u, hi, rfl, hu, B2, B3, B4, hB, hsz⟩ := hrel
    by_cases hlt : i < 8
    · obtain ⟨p, hp⟩ : ∃ p, s[i]? = some p := ⟨_, List.getElem?_eq_getElem (by omega)⟩
      obtain ⟨q, hq⟩ : ∃ q, t[i]? = some q := ⟨_, List.getElem?_eq_getElem (by omega)⟩
      have c0 := B2.cell _ _ (IS_at (hu.at_.trans hp))
      have d0 := B3.cell _ _ (IS_at hq)
      have e0 := B2.free
      have hk0 : (0 : Int) ≤ (i : Int) := by omega
      have hk1 : (i : Int) < 8 := by omega
      have hd : decide ((i : Int) < 8) = true := decide_eq_true hk1
      have hd2 : decide (i < 8) = true := decide_eq_true hlt
      have hU : i < u.length := by rw [hu.1]; omega
      have HP := Lib.hid hp
      have HQ := Lib.hid hq
      have HU := Lib.hid hu
      have hfin : ∀ (w2 : World) (v : Int), Blk w2 a 86 (IS u) → Blk w2 (a + 1) 86 (IS t) → Blk w2 (a + 1 + 1) 86 #[.int .i64 0, .int .i64 0, .int .i64 0, .int .i64 0, .int .i64 0, .int .i64 0, .int .i64 0, .int .i64 0] → Below a w w2 → a ≤ w2.heap.size → Blk (w2.setCell ⟨a, i, none⟩ (.int .i64 v)) a 86 (IS (u.set i v)) ∧ Blk (w2.setCell ⟨a, i, none⟩ (.int .i64 v)) (a + 1) 86 (IS t) ∧ Blk (w2.setCell ⟨a, i, none⟩ (.int .i64 v)) (a + 1 + 1) 86 #[.int .i64 0, .int .i64 0, .int .i64 0, .int .i64 0, .int .i64 0, .int .i64 0, .int .i64 0, .int .i64 0] ∧ Below a w (w2.setCell ⟨a, i, none⟩ (.int .i64 v)) ∧ a ≤ (w2.setCell ⟨a, i, none⟩ (.int .i64 v)).heap.size :=
        fun w2 v b2 b3 b4 hb hz => ⟨IS_set u i v ▸ b2.set i (.int .i64 v), b3.far (p := ⟨a, i, none⟩) (by show a + 1 ≠ a; omega) _, b4.far (p := ⟨a, i, none⟩) (by show a + 1 + 1 ≠ a; omega) _, hb.setCell (p := ⟨a, i, none⟩) (Nat.le_refl _) _, by simp; exact hz⟩
      have HF := Lib.hid hfin
      clear hp hq hu hfin
      by_cases hp1 : p = -1
      · have hb : (p == -1) = true := by rw [hp1]; rfl
        have HN := Lib.hid (show (fun i x => if x = -1 then t[i]?.getD 0 else if t[i]? ≠ some (-1) ∧ t[i]? ≠ some x then 1 else x) i p = q by show (if p = -1 then _ else _) = q; rw [if_pos hp1, HQ.out]; rfl)
        clear hp1
        go_wp2_with fail
        go_roundw
        case rel => exact ⟨i + 1, u.set i q, by omega, by go_num, HU.out.setv HP.out HN.out, HF.out _ q B2 B3 B4 hB hsz⟩
        case measure => simp [intOf]; omega
      have hb : (p == -1) = false := beq_false_of_ne hp1
      have hcs : (((q != -1) = false ∨ ((q != -1) = true ∧ (p != q) = false)) ∧ (fun i x => if x = -1 then t[i]?.getD 0 else if t[i]? ≠ some (-1) ∧ t[i]? ≠ some x then 1 else x) i p = p) ∨ ((q != -1) = true ∧ (p != q) = true ∧ (fun i x => if x = -1 then t[i]?.getD 0 else if t[i]? ≠ some (-1) ∧ t[i]? ≠ some x then 1 else x) i p = 1) := by
        show (_ ∧ (if p = -1 then t[i]?.getD 0 else if t[i]? ≠ some (-1) ∧ t[i]? ≠ some p then 1 else p) = p) ∨ (_ ∧ _ ∧ (if p = -1 then t[i]?.getD 0 else if t[i]? ≠ some (-1) ∧ t[i]? ≠ some p then 1 else p) = 1)
        rw [if_neg hp1, HQ.out]
        by_cases h1 : q = -1
        · subst h1; left; exact ⟨Or.inl (by simp), if_neg (fun e => e.1 rfl)⟩
        · by_cases h2 : p = q
          · subst h2; left; exact ⟨Or.inr ⟨by simp [h1], by simp⟩, if_neg (fun e => e.2 rfl)⟩
          · right; refine ⟨by simp [h1], by simp [h2], if_pos ⟨fun e => h1 (Option.some.inj e), fun e => h2 (Option.some.inj e).symm⟩⟩
      clear hp1
      go_upto_region 6 with fail
      have C0 := Lag.cell c0
      have D0 := Lag.cell d0
      clear c0 d0 e0
      rcases hcs with ⟨⟨hq1⟩ | ⟨hq1, hq2⟩, hg⟩ | ⟨hq1, hq2, hg⟩
      all_goals
        have HG := Lib.hid hg
        clear hg
        refine wp_region_lag (by kernel_rfl) (by kernel_rfl) ?_
        repeat (go_big_quiet_step (fail))
        refine wpQuiet_nil ?_
        rintro w2 ⟨uu, hu⟩
        have hb2 : Below wr.heap.size wr w2 := hu ▸ uu.h
        clear hu uu C0 D0
        have B2' := B2.below hb2
        have B3' := B3.below hb2
        have B4' := B4.below hb2
        have hB' := keep_belowA hb2 hB hsz
        have hsz' := Nat.le_trans hsz hb2.size
        clear B2 B3 B4 hB hsz
        have c0 := B2'.cell _ _ (IS_at (HU.out.at_.trans HP.out))
        have e0 := B2'.free
        go_wp2_with fail
        go_roundw
        case rel =>
          first
          | exact ⟨i + 1, u, by omega, by go_num, HU.out.same HP.out HG.out, B2', B3', B4', hB', hsz'⟩
          | exact ⟨i + 1, u.set i 1, by omega, by go_num, HU.out.setv HP.out HG.out, HF.out _ 1 B2' B3' B4' hB' hsz'⟩
        case measure => simp [intOf]; omega
    · have hi8 : i = 8 := by omega
      have hd : decide ((i : Int) < 8) = false := decide_eq_false (by omega)
      have hd2 : decide (i < 8) = false := decide_eq_false hlt
      have hu2 : u = joinI s t := by rw [hi8, ← hs] at hu; exact hu.done
      have hul : u.length = 8 := hu.1.trans hs
      have B4' := B4.row (IS u)
      have HU := Lib.hid hu2
      clear hu hu2 hi8 hlt hi
      go_wp2_with (first | (refine ldI rfl rfl rfl B2 hul ?_) | (refine stI rfl rfl rfl rfl B4 rfl hul ?_))
      have hlv := lvI B4' hul
      refine bodyPost_ret (v := .agg (IS u)) (by simp [results, Try.results41, asAddr, Act.put, hlv]) rfl ?_
      exact ⟨by rw [HU.out], by rw [HA.out]; exact keep_row hB (by omega) _⟩
end Go.Proofs.Ytpmdgmgcbminaaa

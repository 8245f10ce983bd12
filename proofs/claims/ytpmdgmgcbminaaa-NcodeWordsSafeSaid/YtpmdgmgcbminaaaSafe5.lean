/- The program's forget: raw registers become stale. Printed by mk_safe5.py. -/
import Derived.Test.YtpmdgmgcbminaaaSafe4
namespace Go.Proofs.Ytpmdgmgcbminaaa
open Go.ChangeShapes Go.WideShapes Go.RowKit Words

theorem ext_PS {l : List Srt} {i : Nat} {p : Srt} (h : l[i]? = some p) : (PS l).extract (i * 2) (i * 2 + 2) = #[.int .i64 p.kind, .int .i64 p.at_] := by
  have h0 := PS_at h 0 (by omega)
  have h1 := PS_at h 1 (by omega)
  have hsz : (PS l).size = l.length * 2 := by unfold PS; rw [List.size_toArray, flat_len srtCells 2 srtCells_len]
  have hi := (List.getElem?_eq_some_iff.1 h).1
  apply Array.ext_getElem?
  intro k
  rw [Array.getElem?_extract]
  match k with
  | 0 => rw [if_pos (by omega)]; exact h0
  | 1 => rw [if_pos (by omega)]; exact h1
  | k + 2 => rw [if_neg (by omega)]; rfl
theorem part_P {l : List Srt} {i : Nat} {p : Srt} (h : l[i]? = some p) (w : World) : (part 76 (PS l) (i * 2)).run Try.prog w = .ok (srtV p) w := by
  obtain ⟨inf, hi⟩ : ∃ inf, Try.prog.info? 76 = some inf := Option.isSome_iff_exists.1 (by kernel_rfl)
  have hc : Try.prog.cellsOf 76 = 2 := by kernel_rfl
  have hs := run_sizeOf w hi
  rw [hc] at hs
  have ha : (isAgg 76).run Try.prog w = .ok true w := by
    unfold isAgg
    rw [Sem.run_bind, run_underlying Try.underlying76 w]
    simp
  unfold part
  simp only [Sem.run_bind, ha, Result.andThen_ok, if_true, hs, Sem.run_pure]
  rw [ext_PS h]; rfl
theorem ix_P {l : List Srt} {i : Nat} {p : Srt} (h : l[i]? = some p) (hl : l.length = 8) (w : World) : (Instr.index 78 (.agg (PS l)) (.int .i64 (i : Int))).run Try.prog w = .ok (.agg #[.int .i64 p.kind, .int .i64 p.at_]) w := by
  obtain ⟨inf, hi⟩ : ∃ inf, Try.prog.info? 76 = some inf := Option.isSome_iff_exists.1 (by kernel_rfl)
  have hc : Try.prog.cellsOf 76 = 2 := by kernel_rfl
  have hs := run_sizeOf w hi
  rw [hc] at hs
  have hlt := (List.getElem?_eq_some_iff.1 h).1
  have hp := part_P h w
  unfold Instr.index
  have h8 : (0 : Int) ≤ (i : Int) ∧ (i : Int) < 8 := by omega
  simp [asIntOf, run_underlying Try.underlying78 w, h8, hs, show i < 8 by omega, hp, srtV]

/-- a raw register becomes stale: that of the call at an index, or any -/
def forgetS (at_ : Int) (x : Srt) : Srt := match x with
  | .raw j => if at_ < 0 ∨ (j : Int) = at_ then .stale else .raw j
  | y => y

set_option linter.unusedSimpArgs false in
set_option maxHeartbeats 4000000 in
theorem forget_any (s : List Srt) (hs : s.length = 8) (at_ : Int) (w : World) :
    Calls Try.prog 49 #[.agg (PS s), .int .i64 at_] w fun e w' => e = .returned (.agg (PS (s.map (forgetS at_)))) ∧ Below w.heap.size w w' := by
  have hB : Below w.heap.size w ((w.alloc (.cells (PS s) 78)).alloc (.cells #[.int .i64 0, .int .i64 0, .int .i64 0, .int .i64 0, .int .i64 0, .int .i64 0, .int .i64 0, .int .i64 0, .int .i64 0, .int .i64 0, .int .i64 0, .int .i64 0, .int .i64 0, .int .i64 0, .int .i64 0, .int .i64 0] 78)) := keep_alloc (keep_alloc (Below.refl _ _) _) _
  have B2 := (Blk.new w (PS s) 78).alloc (.cells #[.int .i64 0, .int .i64 0, .int .i64 0, .int .i64 0, .int .i64 0, .int .i64 0, .int .i64 0, .int .i64 0, .int .i64 0, .int .i64 0, .int .i64 0, .int .i64 0, .int .i64 0, .int .i64 0, .int .i64 0, .int .i64 0] 78)
  have B4 := Blk.newAt (w.alloc (.cells (PS s) 78)) #[.int .i64 0, .int .i64 0, .int .i64 0, .int .i64 0, .int .i64 0, .int .i64 0, .int .i64 0, .int .i64 0, .int .i64 0, .int .i64 0, .int .i64 0, .int .i64 0, .int .i64 0, .int .i64 0, .int .i64 0, .int .i64 0] 78 (w.heap.size + 1) (by simp)
  have hmap : s.mapIdx (fun _ x => forgetS at_ x) = s.map (forgetS at_) := by
    apply List.ext_getElem?
    intro j
    rw [List.getElem?_mapIdx, List.getElem?_map]
  have HMAP := Lib.hid hmap
  clear hmap
  go_enter Try.func49, Try.ntmps49
  go_upto_region 1 with fail
  obtain ⟨w0, hw0⟩ : ∃ w0, (w.alloc (.cells (PS s) 78)).alloc (.cells #[.int .i64 0, .int .i64 0, .int .i64 0, .int .i64 0, .int .i64 0, .int .i64 0, .int .i64 0, .int .i64 0, .int .i64 0, .int .i64 0, .int .i64 0, .int .i64 0, .int .i64 0, .int .i64 0, .int .i64 0, .int .i64 0] 78) = w0 := ⟨_, rfl⟩
  rw [hw0] at hB B2 B4 ⊢
  clear hw0
  obtain ⟨a, ha⟩ : ∃ a, w.heap.size = a := ⟨_, rfl⟩
  rw [ha] at hB B2 B4 ⊢
  have HA := Lib.hid ha
  clear ha
  go_wp2_with (refine ldP rfl rfl rfl B2 hs ?_)
  go_loopw [8] (fun x wq => ∃ (i : Nat) (u : List Srt), i ≤ 8 ∧ x = .int .i64 i ∧ Part (fun _ x => forgetS at_ x) s i u ∧ Blk wq a 78 (PS u) ∧ Blk wq (a + 1) 78 #[.int .i64 0, .int .i64 0, .int .i64 0, .int .i64 0, .int .i64 0, .int .i64 0, .int .i64 0, .int .i64 0, .int .i64 0, .int .i64 0, .int .i64 0, .int .i64 0, .int .i64 0, .int .i64 0, .int .i64 0, .int .i64 0] ∧ Below a w wq ∧ a + 1 < wq.heap.size) (fun x _ => 8 - (intOf x).toNat)
  case atStart => exact ⟨0, s, by omega, rfl, Part.start, B2, B4, hB, B4.lt⟩
  case round =>
    clear hB B2 B4
    obtain ⟨i, u, hi, rfl, hu, B2, B4, hB, hsz⟩ := hrel
    by_cases hlt : i < 8
    · obtain ⟨p, hp⟩ : ∃ p, s[i]? = some p := ⟨_, List.getElem?_eq_getElem (by omega)⟩
      have hix := fun w => ix_P hp hs w
      have hk0 : (0 : Int) ≤ (i : Int) := by omega
      have hk1 : (i : Int) < 8 := by omega
      have hd : decide ((i : Int) < 8) = true := decide_eq_true hk1
      have hd2 : decide (i < 8) = true := decide_eq_true hlt
      have hU : i < u.length := by rw [hu.1]; omega
      have hba : Below wr.heap.size wr (wr.alloc (.cells #[.int .i64 p.kind, .int .i64 p.at_] 76)) := keep_alloc (Below.refl _ _) _
      have B2' := B2.below hba
      have B4' := B4.below hba
      have hB' := keep_belowA hba hB (by omega)
      have hsz' := Nat.lt_of_lt_of_le hsz hba.size
      obtain ⟨c0, c1⟩ := srt_far B2' (hu.at_.trans hp)
      have e0 := B2'.free
      have HP := Lib.hid hp
      have HU := Lib.hid hu
      clear hp hu hba B2 B4 hB
      obtain ⟨w2, hw2⟩ : ∃ w2, wr.alloc (.cells #[.int .i64 p.kind, .int .i64 p.at_] 76) = w2 := ⟨_, rfl⟩
      have n0 : w2.cell? ⟨wr.heap.size, 0, none⟩ = some (.int .i64 p.kind) := by rw [← hw2]; exact (Blk.new _ _ _).cell 0 _ rfl
      have n1 : w2.cell? ⟨wr.heap.size, 1, none⟩ = some (.int .i64 p.at_) := by rw [← hw2]; exact (Blk.new _ _ _).cell 1 _ rfl
      go_upto_region 4 with fail
      rw [hw2] at B2' B4' hB' hsz' c0 c1 e0
      clear hw2 hix
      obtain ⟨gn, hgn⟩ : ∃ gn, wr.heap.size = gn := ⟨_, rfl⟩
      rw [hgn] at hsz n0 n1 ⊢
      clear hgn
      have hcs : ((p.kind == 2) = false ∧ forgetS at_ p = p) ∨ ((p.kind == 2) = true ∧ decide (at_ < 0) = true ∧ forgetS at_ p = .stale) ∨ ((p.kind == 2) = true ∧ decide (at_ < 0) = false ∧ (p.at_ == at_) = true ∧ forgetS at_ p = .stale) ∨ ((p.kind == 2) = true ∧ decide (at_ < 0) = false ∧ (p.at_ == at_) = false ∧ forgetS at_ p = p) := by
        cases p with
        | wd => left; exact ⟨rfl, rfl⟩
        | stale => left; exact ⟨rfl, rfl⟩
        | raw j =>
          right
          by_cases h1 : at_ < 0
          · left; exact ⟨rfl, decide_eq_true h1, if_pos (Or.inl h1)⟩
          · right
            by_cases h2 : (j : Int) = at_
            · left; exact ⟨rfl, decide_eq_false h1, beq_iff_eq.2 h2, if_pos (Or.inr h2)⟩
            · right; exact ⟨rfl, decide_eq_false h1, beq_false_of_ne h2, if_neg (fun e => e.elim h1 h2)⟩
      have hno : ∀ wz, Blk wz a 78 (PS u) → Blk ((wz.setCell ⟨a, i * 2, none⟩ (.int .i64 1)).setCell ⟨a, i * 2 + 1, none⟩ (.int .i64 0)) a 78 (PS (u.set i .stale)) := fun wz hz => PS_set hU .stale ▸ (hz.set (i * 2) (.int .i64 1)).set (i * 2 + 1) (.int .i64 0)
      have HNO := Lib.hid hno
      clear hno
      rcases hcs with ⟨t1, hg⟩ | ⟨t1, t2, hg⟩ | ⟨t1, t2, t3, hg⟩ | ⟨t1, t2, t3, hg⟩
      all_goals
        have HG := Lib.hid hg
        clear hg
        go_wp2_with fail
        go_roundw
        case rel =>
          first
          | exact ⟨i + 1, u, by omega, by go_num, HU.out.same HP.out HG.out, B2', B4', hB', hsz'⟩
          | exact ⟨i + 1, u.set i .stale, by omega, by go_num, HU.out.setv HP.out HG.out, HNO.out _ B2', (B4'.far (p := ⟨a, _, none⟩) (by show a + 1 ≠ a; omega) _).far (p := ⟨a, _, none⟩) (by show a + 1 ≠ a; omega) _, (hB'.setCell (p := ⟨a, _, none⟩) (Nat.le_refl _) _).setCell (p := ⟨a, _, none⟩) (Nat.le_refl _) _, by simp; omega⟩
        case measure => simp [intOf]; omega
    · have hi8 : i = 8 := by omega
      have hd : decide ((i : Int) < 8) = false := decide_eq_false (by omega)
      have hd2 : decide (i < 8) = false := decide_eq_false hlt
      have hu2 : u = s.map (forgetS at_) := by rw [hi8, ← hs] at hu; exact hu.done.trans HMAP.out
      have hul : u.length = 8 := hu.1.trans hs
      have B4' := B4.row (PS u)
      have HU := Lib.hid hu2
      clear hu hu2 hi8 hlt hi
      go_wp2_with (first | (refine ldP rfl rfl rfl B2 hul ?_) | (refine stP rfl rfl rfl rfl B4 rfl hul ?_))
      have hlv := lvP B4' hul
      refine bodyPost_ret (v := .agg (PS u)) (by simp [results, Try.results49, asAddr, Act.put, hlv]) rfl ?_
      exact ⟨by rw [HU.out], by rw [HA.out]; exact keep_row hB (by omega) _⟩
end Go.Proofs.Ytpmdgmgcbminaaa

/- The program's join of sorts. -/
import Derived.Test.YtpmdgmgcbminaaaSafe1
namespace Go.Proofs.Ytpmdgmgcbminaaa
open Go.ChangeShapes Go.WideShapes Go.RowKit Words

/-- a list that is turned in place, item by item, up to an index -/
def Part {α : Type} (g : Nat → α → α) (s : List α) (i : Nat) (u : List α) : Prop := u.length = s.length ∧ ∀ j : Nat, u[j]? = if j < i then (s[j]?).map (g j) else s[j]?
section
variable {α : Type} {g : Nat → α → α} {s u : List α} {i : Nat} {a : α}
theorem Part.start : Part g s 0 s := ⟨rfl, fun j => by rw [if_neg (by omega)]⟩
theorem Part.at_ (h : Part g s i u) : u[i]? = s[i]? := by rw [h.2 i, if_neg (by omega)]
theorem Part.set (h : Part g s i u) (ha : s[i]? = some a) : Part g s (i + 1) (u.set i (g i a)) := by
  have hi : i < u.length := by rw [h.1]; exact (List.getElem?_eq_some_iff.1 ha).1
  refine ⟨by rw [List.length_set]; exact h.1, fun j => ?_⟩
  by_cases e : j = i
  · subst e
    rw [if_pos (by omega), List.getElem?_set_self hi, ha]; rfl
  · rw [List.getElem?_set_ne (fun h => e h.symm), h.2 j]
    by_cases hj : j < i
    · rw [if_pos hj, if_pos (by omega)]
    · rw [if_neg hj, if_neg (by omega)]
theorem Part.setv (h : Part g s i u) (ha : s[i]? = some a) {v : α} (hv : g i a = v) : Part g s (i + 1) (u.set i v) := hv ▸ h.set ha
theorem Part.same (h : Part g s i u) (ha : s[i]? = some a) (hg : g i a = a) : Part g s (i + 1) u := by
  refine ⟨h.1, fun j => ?_⟩
  by_cases e : j = i
  · subst e
    rw [if_pos (by omega), h.at_, ha, Option.map_some, hg]
  · rw [h.2 j]
    by_cases hj : j < i
    · rw [if_pos hj, if_pos (by omega)]
    · rw [if_neg hj, if_neg (by omega)]
theorem Part.done (h : Part g s s.length u) : u = s.mapIdx g := by
  apply List.ext_getElem?
  intro j
  rw [h.2 j, List.getElem?_mapIdx]
  by_cases hj : j < s.length
  · rw [if_pos hj]
  · rw [if_neg hj, List.getElem?_eq_none (by omega)]; rfl
end
/-- the sorts where two paths meet -/
theorem keep_belowA {a : Nat} {w wr w2 : World} (hb : Below wr.heap.size wr w2) (h : Below a w wr) (hs : a ≤ wr.heap.size) : Below a w w2 := h.trans (hb.mono hs)
def joinR (s t : List Srt) : List Srt := s.mapIdx fun i a => if t[i]? = some a then a else .stale
theorem srt_far {w : World} {g : Nat} {T : TypeId} {l : List Srt} (h : Blk w g T (PS l)) {i : Nat} {a : Srt} (ha : l[i]? = some a) : w.cell? ⟨g, i * 2, none⟩ = some (.int .i64 a.kind) ∧ w.cell? ⟨g, i * 2 + 1, none⟩ = some (.int .i64 a.at_) :=
  ⟨h.cell _ _ (PS_at ha 0 (by omega)), h.cell _ _ (PS_at ha 1 (by omega))⟩

set_option linter.unusedSimpArgs false in
set_option maxHeartbeats 4000000 in
theorem joined_any (s t : List Srt) (hs : s.length = 8) (ht : t.length = 8) (w : World) :
    Calls Try.prog 37 #[.agg (PS s), .agg (PS t)] w fun e w' => e = .returned (.agg (PS (joinR s t))) ∧ Below w.heap.size w w' := by
  have hB : Below w.heap.size w (((w.alloc (.cells (PS s) 78)).alloc (.cells (PS t) 78)).alloc (.cells #[.int .i64 0, .int .i64 0, .int .i64 0, .int .i64 0, .int .i64 0, .int .i64 0, .int .i64 0, .int .i64 0, .int .i64 0, .int .i64 0, .int .i64 0, .int .i64 0, .int .i64 0, .int .i64 0, .int .i64 0, .int .i64 0] 78)) := keep_alloc (keep_alloc (keep_alloc (Below.refl _ _) _) _) _
  have B2 := ((Blk.new w (PS s) 78).alloc (.cells (PS t) 78)).alloc (.cells #[.int .i64 0, .int .i64 0, .int .i64 0, .int .i64 0, .int .i64 0, .int .i64 0, .int .i64 0, .int .i64 0, .int .i64 0, .int .i64 0, .int .i64 0, .int .i64 0, .int .i64 0, .int .i64 0, .int .i64 0, .int .i64 0] 78)
  have B3 := (Blk.newAt (w.alloc (.cells (PS s) 78)) (PS t) 78 (w.heap.size + 1) (by simp)).alloc (.cells #[.int .i64 0, .int .i64 0, .int .i64 0, .int .i64 0, .int .i64 0, .int .i64 0, .int .i64 0, .int .i64 0, .int .i64 0, .int .i64 0, .int .i64 0, .int .i64 0, .int .i64 0, .int .i64 0, .int .i64 0, .int .i64 0] 78)
  have B4 := Blk.newAt ((w.alloc (.cells (PS s) 78)).alloc (.cells (PS t) 78)) #[.int .i64 0, .int .i64 0, .int .i64 0, .int .i64 0, .int .i64 0, .int .i64 0, .int .i64 0, .int .i64 0, .int .i64 0, .int .i64 0, .int .i64 0, .int .i64 0, .int .i64 0, .int .i64 0, .int .i64 0, .int .i64 0] 78 (w.heap.size + 1 + 1) (by simp)
  go_enter Try.func37, Try.ntmps37
  go_wp2_with fail
  obtain ⟨w0, hw0⟩ : ∃ w0, ((w.alloc (.cells (PS s) 78)).alloc (.cells (PS t) 78)).alloc (.cells #[.int .i64 0, .int .i64 0, .int .i64 0, .int .i64 0, .int .i64 0, .int .i64 0, .int .i64 0, .int .i64 0, .int .i64 0, .int .i64 0, .int .i64 0, .int .i64 0, .int .i64 0, .int .i64 0, .int .i64 0, .int .i64 0] 78) = w0 := ⟨_, rfl⟩
  rw [hw0] at hB B2 B3 B4 ⊢
  clear hw0
  obtain ⟨a, ha⟩ : ∃ a, w.heap.size = a := ⟨_, rfl⟩
  rw [ha] at hB B2 B3 B4 ⊢
  have HA := Lib.hid ha
  clear ha
  go_loopw [6] (fun x wq => ∃ (i : Nat) (u : List Srt), i ≤ 8 ∧ x = .int .i64 i ∧ Part (fun i a => if t[i]? = some a then a else .stale) s i u ∧ Blk wq a 78 (PS u) ∧ Blk wq (a + 1) 78 (PS t) ∧ Blk wq (a + 1 + 1) 78 #[.int .i64 0, .int .i64 0, .int .i64 0, .int .i64 0, .int .i64 0, .int .i64 0, .int .i64 0, .int .i64 0, .int .i64 0, .int .i64 0, .int .i64 0, .int .i64 0, .int .i64 0, .int .i64 0, .int .i64 0, .int .i64 0] ∧ Below a w wq ∧ a ≤ wq.heap.size) (fun x _ => 8 - (intOf x).toNat)
  case atStart => exact ⟨0, s, by omega, rfl, Part.start, B2, B3, B4, hB, by have := B2.lt; omega⟩
  case round =>
    clear hB B2 B3 B4
    obtain ⟨i, u, hi, rfl, hu, B2, B3, B4, hB, hsz⟩ := hrel
    by_cases hlt : i < 8
    · obtain ⟨p, hp⟩ : ∃ p, s[i]? = some p := ⟨_, List.getElem?_eq_getElem (by omega)⟩
      obtain ⟨q, hq⟩ : ∃ q, t[i]? = some q := ⟨_, List.getElem?_eq_getElem (by omega)⟩
      obtain ⟨c0, c1⟩ := srt_far B2 (hu.at_.trans hp)
      obtain ⟨d0, d1⟩ := srt_far B3 hq
      have e0 := B2.free
      have hk0 : (0 : Int) ≤ (i : Int) := by omega
      have hk1 : (i : Int) < 8 := by omega
      have hd : decide ((i : Int) < 8) = true := decide_eq_true hk1
      have hd2 : decide (i < 8) = true := decide_eq_true hlt
      obtain ⟨bb, hbb⟩ : ∃ bb, decide (p = q) = bb := ⟨_, rfl⟩
      have heq : ∀ w', (Op.equalIn 10000 76 (.agg #[.int .i64 p.kind, .int .i64 p.at_]) (.agg #[.int .i64 q.kind, .int .i64 q.at_])).run Try.prog w' = .ok bb w' := fun w' => by rw [← hbb]; exact srt_eq 9998 p q w'
      have HP := Lib.hid hp
      have HQ := Lib.hid hq
      have HU := Lib.hid hu
      clear hp hq hu
      go_upto_region 4 with fail
      have C0 := Lag.cell c0
      have C1 := Lag.cell c1
      have D0 := Lag.cell d0
      have D1 := Lag.cell d1
      clear c0 c1 d0 d1 e0
      refine wp_region_lag (by kernel_rfl) (by kernel_rfl) ?_
      repeat (go_big_quiet_step (fail))
      refine wpQuiet_nil ?_
      rintro w2 ⟨uu, hu⟩
      have hb2 : Below wr.heap.size wr w2 := hu ▸ uu.h
      clear hu uu C0 C1 D0 D1 heq
      have B2' := B2.below hb2
      have B3' := B3.below hb2
      have B4' := B4.below hb2
      have hB' := keep_belowA hb2 hB hsz
      have hsz' := Nat.le_trans hsz hb2.size
      clear B2 B3 B4 hB hsz
      cases bb with
      | true =>
        have hpq : p = q := of_decide_eq_true hbb
        go_wp2_with fail
        go_roundw
        case rel => exact ⟨i + 1, u, by omega, by go_num, HU.out.same HP.out (if_pos (hpq ▸ HQ.out)), B2', B3', B4', hB', hsz'⟩
        case measure => simp [intOf]; omega
      | false =>
        have hpq : ¬ p = q := of_decide_eq_false hbb
        obtain ⟨c0, c1⟩ := srt_far B2' (HU.out.at_.trans HP.out)
        have e0 := B2'.free
        have hU : i < u.length := by rw [HU.out.1]; omega
        have HPQ := Lib.hid hpq
        clear hpq hbb
        go_wp2_with fail
        go_roundw
        case rel => exact ⟨i + 1, u.set i .stale, by omega, by go_num, (by have := HU.out.set HP.out; rwa [if_neg (fun e => HPQ.out (Option.some.inj (e.symm.trans HQ.out)))] at this), PS_set hU .stale ▸ (B2'.set (i * 2) (.int .i64 Srt.stale.kind)).set (i * 2 + 1) (.int .i64 Srt.stale.at_), (B3'.far (p := ⟨a, _, none⟩) (by show a + 1 ≠ a; omega) _).far (p := ⟨a, _, none⟩) (by show a + 1 ≠ a; omega) _, (B4'.far (p := ⟨a, _, none⟩) (by show a + 1 + 1 ≠ a; omega) _).far (p := ⟨a, _, none⟩) (by show a + 1 + 1 ≠ a; omega) _, (hB'.setCell (p := ⟨a, _, none⟩) (Nat.le_refl _) _).setCell (p := ⟨a, _, none⟩) (Nat.le_refl _) _, by simp; omega⟩
        case measure => simp [intOf]; omega
    · have hi8 : i = 8 := by omega
      have hd : decide ((i : Int) < 8) = false := decide_eq_false (by omega)
      have hd2 : decide (i < 8) = false := decide_eq_false hlt
      have hu2 : u = joinR s t := by rw [hi8, ← hs] at hu; exact hu.done
      have hul : u.length = 8 := hu.1.trans hs
      have B4' := B4.row (PS u)
      have HU := Lib.hid hu2
      clear hu hu2 hi8 hlt hi
      go_wp2_with (first | (refine ldP rfl rfl rfl B2 hul ?_) | (refine stP rfl rfl rfl rfl B4 rfl hul ?_))
      have hlv := lvP B4' hul
      refine bodyPost_ret (v := .agg (PS u)) (by simp [results, Try.results37, asAddr, Act.put, hlv]) rfl ?_
      exact ⟨by rw [HU.out], by rw [HA.out]; exact keep_row hB (by omega) _⟩
end Go.Proofs.Ytpmdgmgcbminaaa

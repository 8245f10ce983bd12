/- The reference's words and called; ways and next. Printed by mk_safe7.py. -/
import Derived.Test.YtpmdgmgcbminaaaSafe6
namespace Go.Proofs.Ytpmdgmgcbminaaa
open Go.ChangeShapes Go.WideShapes Go.RowKit Words

theorem nums_len {l : List Srt} (hl : l.length = 8) : (l.map Srt.num).length = 8 := by rw [List.length_map]; exact hl
theorem ldS {ops : Array Oper} {rest : List Oper} {op : Oper} {a : Act} {w : World} {Q : Exit → Act → World → Prop} {t : TypeId} {g : Nat} {x : Operand} {l : List Srt} (hgd : op.guard = none) (ho : op.op = .load 86 x)
    (hx : a.eval x = .pointer (some ⟨g, 0, none⟩)) (hb : Blk w g t (RS l)) (hl : l.length = 8)
    (h : wpList Try.prog ops Q rest (a.put op.dst (.agg (RS l))) w) : wpList Try.prog ops Q (op :: rest) a w := ldI hgd ho hx hb (nums_len hl) h
theorem stS {ops : Array Oper} {rest : List Oper} {op : Oper} {a : Act} {w : World} {Q : Exit → Act → World → Prop} {t : TypeId} {g : Nat} {x y : Operand} {l : List Srt} {old : Array Value} (hgd : op.guard = none) (ho : op.op = .store 86 x y)
    (hx : a.eval x = .pointer (some ⟨g, 0, none⟩)) (hy : a.eval y = .agg (RS l)) (hb : Blk w g t old) (hz : old.size = 8) (hl : l.length = 8)
    (h : wpList Try.prog ops Q rest (a.put op.dst undef) (w.setRow g (RS l))) : wpList Try.prog ops Q (op :: rest) a w := stI hgd ho hx hy hb hz (nums_len hl) h
theorem lvS {w : World} {g : Nat} {t : TypeId} {l : List Srt} (hb : Blk w g t (RS l)) (hl : l.length = 8) : (loadVar 86 ⟨g, 0, none⟩).run Try.prog w = .ok (.agg (RS l)) w := lvI hb (nums_len hl)
theorem num_wd {p : Srt} : (p.num != 0) = !decide (p = .wd) := by
  cases p with
  | wd => rfl
  | stale => rfl
  | raw i => simp [Srt.num]; omega
theorem RS_far {w : World} {g : Nat} {T : TypeId} {l : List Srt} (h : Blk w g T (RS l)) {i : Nat} {a : Srt} (ha : l[i]? = some a) : w.cell? ⟨g, i, none⟩ = some (.int .i64 a.num) := h.cell _ _ (RS_at ha)

set_option linter.unusedSimpArgs false in
set_option maxHeartbeats 4000000 in
theorem rwords_any (s : List Srt) (hs : s.length = 8) (i n : Nat) (hi : i < 8) (hn : n ≤ 8) (w : World) :
    Calls Try.prog 54 #[.agg (RS s), .int .i64 i, .int .i64 n] w fun e w' => e = .returned (.bool (wordsS s i (min (i + n) 8))) ∧ Below w.heap.size w w' := by
  have hB : Below w.heap.size w (w.alloc (.cells (RS s) 86)) := keep_alloc (Below.refl _ _) _
  have B2 := Blk.new w (RS s) 86
  have hw : IntKind.i64.wrap ((i : Int) + (n : Int)) = (i : Int) + (n : Int) := IntWalk.i64_in _ (by omega)
  go_enter Try.func54, Try.ntmps54
  go_wp2_with fail
  obtain ⟨w0, hw0⟩ : ∃ w0, w.alloc (.cells (RS s) 86) = w0 := ⟨_, rfl⟩
  rw [hw0] at hB B2 ⊢
  clear hw0
  obtain ⟨g, hg⟩ : ∃ g, w.heap.size = g := ⟨_, rfl⟩
  rw [hg] at B2 ⊢
  clear hg
  go_loopw [7] (fun x wq => ∃ k : Nat, k ≤ min (i + n) 8 ∧ x = .int .i64 k ∧ wordsS s i (min (i + n) 8) = wordsS s k (min (i + n) 8) ∧ Blk wq g 86 (RS s) ∧ Below w.heap.size w wq) (fun x _ => 8 - (intOf x).toNat)
  case atStart => exact ⟨i, by omega, rfl, rfl, B2, hB⟩
  case round =>
    clear hB B2
    obtain ⟨k, hk, rfl, hspec, B2, hB⟩ := hrel
    by_cases hlt : k < min (i + n) 8
    · obtain ⟨p, hp⟩ : ∃ p, s[k]? = some p := ⟨_, List.getElem?_eq_getElem (by omega)⟩
      have c0 := RS_far B2 hp
      have hsp := wordsS_cons hp hlt
      have k0 : (0 : Int) ≤ (k : Int) := by omega
      have k1 : (k : Int) < 8 := by omega
      have k2 : decide ((k : Int) < (i : Int) + (n : Int)) = true := decide_eq_true (by omega)
      have k3 : decide ((k : Int) < 8) = true := decide_eq_true k1
      have kw : (p.num != 0) = !decide (p = .wd) := num_wd
      obtain ⟨pb, hpb⟩ : ∃ pb, decide (p = Srt.wd) = pb := ⟨_, rfl⟩
      rw [hpb] at kw hsp
      rw [hsp] at hspec
      have HS := Lib.hid hspec
      have HLT := Lib.hid hlt
      clear hspec hsp hp hpb hk hlt
      cases pb with
      | true =>
        have kw2 : (p.num != 0) = false := kw
        clear kw
        go_wp2_with fail
        go_roundw
        case rel => exact ⟨k + 1, HLT.out, by go_num, HS.out.trans (by simp), B2, hB⟩
        case measure => have := HLT.out; simp [intOf]; omega
      | false =>
        have kw2 : (p.num != 0) = true := kw
        clear kw
        go_wp2_with fail
        go_ret
        exact ⟨by rw [HS.out]; rfl, hB⟩
    · have hsp : wordsS s i (min (i + n) 8) = true := by rw [hspec, show k = min (i + n) 8 by omega, wordsS_nil]
      have HS := Lib.hid hsp
      have hd : (decide ((k : Int) < (i : Int) + (n : Int)) = false) ∨ (decide ((k : Int) < (i : Int) + (n : Int)) = true ∧ decide ((k : Int) < 8) = false) := by
        by_cases h : (k : Int) < (i : Int) + (n : Int)
        · exact Or.inr ⟨decide_eq_true h, decide_eq_false (by omega)⟩
        · exact Or.inl (decide_eq_false h)
      clear hspec hsp hlt hk
      rcases hd with hd | ⟨hd, hd2⟩
      all_goals
        go_wp2_with fail
        go_ret
        exact ⟨by rw [HS.out]; rfl, hB⟩

/-- what a call makes stale -/
def calledG (b : Int) (at_ : Nat) (x : Srt) : Srt := if b = 19 then forgetS at_ x else if b = 20 then forgetS (-1) x else x
/-- the sorts after a call -/
def calledS (s : List Srt) (a : Nat) (b : Int) (at_ : Nat) : List Srt := (s.map (calledG b at_)).set a (if b = 19 then .raw at_ else .wd)
theorem Srt.num_raw (p : Srt) (at_ : Nat) : (p.num == 2 + (at_ : Int)) = decide (p = .raw at_) := by
  cases p with
  | wd => simp [Srt.num]; omega
  | stale => simp [Srt.num]; omega
  | raw i => simp [Srt.num]; rw [Bool.eq_iff_iff]; simp; exact ⟨fun h => by omega, fun h => by omega⟩
def Srt.isRaw : Srt → Bool | .raw _ => true | _ => false
theorem Srt.num_is (p : Srt) : decide (2 ≤ p.num) = p.isRaw := by
  cases p with
  | wd => rfl
  | stale => rfl
  | raw i => exact decide_eq_true (by show (2 : Int) ≤ 2 + (i : Int); omega)

set_option linter.unusedSimpArgs false in
set_option maxHeartbeats 8000000 in
theorem called_any (s : List Srt) (hs : s.length = 8) (op b c : Int) (a : Nat) (ha8 : a < 8) (k : BitVec 64) (at_ : Nat) (hat : at_ ≤ 1000) (w : World) :
    Calls Try.prog 53 #[.agg (RS s), .agg #[.int .i64 op, .int .i64 (a : Nat), .int .i64 b, .int .i64 c, .int .u64 (U k)], .int .i64 at_] w fun e w' => e = .returned (.agg (RS (calledS s a b at_))) ∧ Below w.heap.size w w' := by
  have hB : Below w.heap.size w (((w.alloc (.cells (RS s) 86)).alloc (.cells #[.int .i64 op, .int .i64 a, .int .i64 b, .int .i64 c, .int .u64 (U k)] 58)).alloc (.cells #[.int .i64 0, .int .i64 0, .int .i64 0, .int .i64 0, .int .i64 0, .int .i64 0, .int .i64 0, .int .i64 0] 86)) := keep_alloc (keep_alloc (keep_alloc (Below.refl _ _) _) _) _
  have B2 := ((Blk.new w (RS s) 86).alloc (.cells #[.int .i64 op, .int .i64 a, .int .i64 b, .int .i64 c, .int .u64 (U k)] 58)).alloc (.cells #[.int .i64 0, .int .i64 0, .int .i64 0, .int .i64 0, .int .i64 0, .int .i64 0, .int .i64 0, .int .i64 0] 86)
  have B3 := (Blk.newAt (w.alloc (.cells (RS s) 86)) #[.int .i64 op, .int .i64 a, .int .i64 b, .int .i64 c, .int .u64 (U k)] 58 (w.heap.size + 1) (by simp)).alloc (.cells #[.int .i64 0, .int .i64 0, .int .i64 0, .int .i64 0, .int .i64 0, .int .i64 0, .int .i64 0, .int .i64 0] 86)
  have B4 := Blk.newAt ((w.alloc (.cells (RS s) 86)).alloc (.cells #[.int .i64 op, .int .i64 a, .int .i64 b, .int .i64 c, .int .u64 (U k)] 58)) #[.int .i64 0, .int .i64 0, .int .i64 0, .int .i64 0, .int .i64 0, .int .i64 0, .int .i64 0, .int .i64 0] 86 (w.heap.size + 1 + 1) (by simp)
  go_enter Try.func53, Try.ntmps53
  go_wp2_with fail
  obtain ⟨w0, hw0⟩ : ∃ w0, ((w.alloc (.cells (RS s) 86)).alloc (.cells #[.int .i64 op, .int .i64 a, .int .i64 b, .int .i64 c, .int .u64 (U k)] 58)).alloc (.cells #[.int .i64 0, .int .i64 0, .int .i64 0, .int .i64 0, .int .i64 0, .int .i64 0, .int .i64 0, .int .i64 0] 86) = w0 := ⟨_, rfl⟩
  rw [hw0] at hB B2 B3 B4 ⊢
  clear hw0
  obtain ⟨g, hg⟩ : ∃ g, w.heap.size = g := ⟨_, rfl⟩
  rw [hg] at hB B2 B3 B4 ⊢
  have HA := Lib.hid hg
  clear hg
  have hw : IntKind.i64.wrap (2 + (at_ : Int)) = 2 + (at_ : Int) := IntWalk.i64_in _ (by omega)
  go_loopw [7] (fun x wq => ∃ (i : Nat) (u : List Srt), i ≤ 8 ∧ x = .int .i64 i ∧ Part (fun (_ : Nat) x => calledG b at_ x) s i u ∧ Blk wq g 86 (RS u) ∧ Blk wq (g + 1) 58 #[.int .i64 op, .int .i64 a, .int .i64 b, .int .i64 c, .int .u64 (U k)] ∧ Blk wq (g + 1 + 1) 86 #[.int .i64 0, .int .i64 0, .int .i64 0, .int .i64 0, .int .i64 0, .int .i64 0, .int .i64 0, .int .i64 0] ∧ Below g w wq ∧ g ≤ wq.heap.size) (fun x _ => 8 - (intOf x).toNat)
  case atStart => exact ⟨0, s, by omega, rfl, Part.start, B2, B3, B4, hB, by have := B2.lt; omega⟩
  case round =>
    clear hB B2 B3 B4
    obtain ⟨i, u, hi, rfl, hu, B2, B3, B4, hB, hsz⟩ := hrel
    by_cases hlt : i < 8
    · obtain ⟨p, hp⟩ : ∃ p, s[i]? = some p := ⟨_, List.getElem?_eq_getElem (by omega)⟩
      have c0 := RS_far B2 (hu.at_.trans hp)
      have b2 := B3.cell 2 _ rfl
      have e0 := B2.free
      have hk0 : (0 : Int) ≤ (i : Int) := by omega
      have hk1 : (i : Int) < 8 := by omega
      have hd : decide ((i : Int) < 8) = true := decide_eq_true hk1
      have hd2 : decide (i < 8) = true := decide_eq_true hlt
      have hU : i < u.length := by rw [hu.1]; omega
      have n1 := Srt.num_raw p at_
      have n2 := Srt.num_is p
      have HP := Lib.hid hp
      have HU := Lib.hid hu
      have hno : Blk (wr.setCell ⟨g, i, none⟩ (.int .i64 1)) g 86 (RS (u.set i .stale)) := RS_set u i .stale ▸ B2.set i (.int .i64 1)
      have HNO := Lib.hid hno
      have hcs : (b = 19 ∧ decide (p = .raw at_) = true ∧ calledG b at_ p = .stale) ∨ (b = 19 ∧ decide (p = .raw at_) = false ∧ calledG b at_ p = p) ∨ (b = 20 ∧ p.isRaw = true ∧ calledG b at_ p = .stale) ∨ (b = 20 ∧ p.isRaw = false ∧ calledG b at_ p = p) ∨ ((b == 19) = false ∧ (b == 20) = false ∧ calledG b at_ p = p) := by
        unfold calledG
        by_cases h1 : b = 19
        · rw [if_pos h1]
          by_cases h2 : p = .raw at_
          · left; refine ⟨h1, decide_eq_true h2, ?_⟩; subst h2; exact if_pos (Or.inr rfl)
          · right; left; refine ⟨h1, decide_eq_false h2, ?_⟩
            cases p with
            | wd => rfl
            | stale => rfl
            | raw j => exact if_neg (fun e => e.elim (fun e => by omega) (fun e => h2 (by rw [show j = at_ by omega])))
        · rw [if_neg h1]
          by_cases h3 : b = 20
          · rw [if_pos h3]
            cases p with
            | wd => right; right; right; left; exact ⟨h3, rfl, rfl⟩
            | stale => right; right; right; left; exact ⟨h3, rfl, rfl⟩
            | raw j => right; right; left; exact ⟨h3, rfl, by unfold forgetS; exact if_pos (Or.inl (by decide))⟩
          · rw [if_neg h3]; right; right; right; right; exact ⟨beq_false_of_ne h1, beq_false_of_ne h3, rfl⟩
      clear hp hu hno
      rcases hcs with ⟨rfl, t, hg⟩ | ⟨rfl, t, hg⟩ | ⟨rfl, t, hg⟩ | ⟨rfl, t, hg⟩ | ⟨t, t2, hg⟩
      all_goals
        have HG := Lib.hid hg
        clear hg
        try rw [t] at n1
        try rw [t] at n2
        go_wp2_with (go_at_call 52; refine (raw_val _ _ n2 _).mono ?_; rintro e w' ⟨rfl, rfl⟩)
        go_roundw
        case rel =>
          first
          | exact ⟨i + 1, u, by omega, by go_num, HU.out.same HP.out HG.out, B2, B3, B4, hB, hsz⟩
          | exact ⟨i + 1, u.set i .stale, by omega, by go_num, HU.out.setv HP.out HG.out, HNO.out, B3.far (p := ⟨g, i, none⟩) (by show g + 1 ≠ g; omega) _, B4.far (p := ⟨g, i, none⟩) (by show g + 1 + 1 ≠ g; omega) _, hB.setCell (p := ⟨g, i, none⟩) (Nat.le_refl _) _, by simp; exact hsz⟩
        case measure => simp [intOf]; omega
    · have hi8 : i = 8 := by omega
      have hd : decide ((i : Int) < 8) = false := decide_eq_false (by omega)
      have hd2 : decide (i < 8) = false := decide_eq_false hlt
      have hmap : s.mapIdx (fun (_ : Nat) x => calledG b at_ x) = s.map (calledG b at_) := by
        apply List.ext_getElem?
        intro j
        rw [List.getElem?_mapIdx, List.getElem?_map]
      have hu2 : u = s.map (calledG b at_) := by rw [hi8, ← hs] at hu; exact hu.done.trans hmap
      have hul : u.length = 8 := hu.1.trans hs
      have b1 := B3.cell 1 _ rfl
      have b2 := B3.cell 2 _ rfl
      have a0 : (0 : Int) ≤ (a : Int) := by omega
      have a1 : (a : Int) < 8 := by omega
      obtain ⟨p, hp⟩ : ∃ p, u[a]? = some p := ⟨_, List.getElem?_eq_getElem (by omega)⟩
      have c0 := RS_far B2 hp
      have e0 := B2.free
      have X2 : Blk (wr.setCell ⟨g, a, none⟩ (.int .i64 0)) g 86 (RS (u.set a .wd)) := RS_set u a .wd ▸ B2.set a (.int .i64 0)
      have X3 := B3.far (p := ⟨g, a, none⟩) (by show g + 1 ≠ g; omega) (.int .i64 0)
      have X4 := B4.far (p := ⟨g, a, none⟩) (by show g + 1 + 1 ≠ g; omega) (.int .i64 0)
      have XB := hB.setCell (p := ⟨g, a, none⟩) (Nat.le_refl _) (.int .i64 0)
      have hp2 : (u.set a Srt.wd)[a]? = some Srt.wd := by rw [List.getElem?_set_self (by omega)]
      have d0 := RS_far X2 hp2
      have x1 := X3.cell 1 _ rfl
      have x2 := X3.cell 2 _ rfl
      have f0 := X2.free
      have hxl : (u.set a Srt.wd).length = 8 := by rw [List.length_set]; exact hul
      by_cases h19 : b = 19
      · have hb : (b == 19) = true := by rw [h19]; rfl
        have Y2 : Blk ((wr.setCell ⟨g, a, none⟩ (.int .i64 0)).setCell ⟨g, a, none⟩ (.int .i64 (2 + (at_ : Int)))) g 86 (RS (u.set a (.raw at_))) := by
          have := X2.set a (.int .i64 (Srt.raw at_).num)
          rw [RS_set, List.set_set] at this
          exact this
        have Y4 := X4.far (p := ⟨g, a, none⟩) (by show g + 1 + 1 ≠ g; omega) (.int .i64 (2 + (at_ : Int)))
        have YB := XB.setCell (p := ⟨g, a, none⟩) (Nat.le_refl _) (.int .i64 (2 + (at_ : Int)))
        have hyl : (u.set a (Srt.raw at_)).length = 8 := by rw [List.length_set]; exact hul
        have Y5 := Y4.row (RS (u.set a (.raw at_)))
        have hfin : calledS s a b at_ = u.set a (.raw at_) := by unfold calledS; rw [if_pos h19, hu2]
        have HF := Lib.hid hfin
        clear hfin hu hu2 hi8 hlt hi hmap h19
        go_wp2_with (first | (refine ldS rfl rfl rfl Y2 hyl ?_) | (refine stS rfl rfl rfl rfl Y4 rfl hyl ?_))
        have hlv : (loadVar 86 ⟨g + 1 + 1, 0, none⟩).run Try.prog _ = .ok (.agg (RS (u.set a (.raw at_)))) _ := lvS Y5 hyl
        refine bodyPost_ret (v := .agg (RS (u.set a (.raw at_)))) (by simp [results, Try.results53, asAddr, Act.put, hlv]) rfl ?_
        exact ⟨by rw [HF.out], by rw [HA.out]; exact keep_row YB (by omega) _⟩
      · have hb : (b == 19) = false := beq_false_of_ne h19
        have Y5 := X4.row (RS (u.set a .wd))
        have hfin : calledS s a b at_ = u.set a .wd := by unfold calledS; rw [if_neg h19, hu2]
        have HF := Lib.hid hfin
        clear hfin hu hu2 hi8 hlt hi hmap h19
        go_wp2_with (first | (refine ldS rfl rfl rfl X2 hxl ?_) | (refine stS rfl rfl rfl rfl X4 rfl hxl ?_))
        have hlv : (loadVar 86 ⟨g + 1 + 1, 0, none⟩).run Try.prog _ = .ok (.agg (RS (u.set a .wd))) _ := lvS Y5 hxl
        refine bodyPost_ret (v := .agg (RS (u.set a .wd))) (by simp [results, Try.results53, asAddr, Act.put, hlv]) rfl ?_
        exact ⟨by rw [HF.out], by rw [HA.out]; exact keep_row XB (by omega) _⟩
end Go.Proofs.Ytpmdgmgcbminaaa

/- The tape of choices: what Next returns, and what it leaves. -/
import Derived.Test.YtpmdgmgcbminaaaOpen
import Derived.Test.YtpmdgmgcbminaaaNum
import Derived.WalkSpells
import Derived.BigQuiet
import Derived.Deep.QuietTactic
namespace Go.Proofs.Ytpmdgmgcbminaaa
open Go.RowKit Words

/-- block g is a tape of which a numbers have been used -/
def TapeAt (w : World) (g a : Nat) : Prop := ∃ A n c, ∃ l : List Int, Blk w g 63 #[.slice A n c, .int .i64 a] ∧ Reads w g 1 A n c (l.flatMap intCells)
theorem TapeAt.only {w w' : World} {g a g' : Nat} (h : TapeAt w g a) (ho : w.grownBy w' (some g')) (hne : g < g') : TapeAt w' g a := by
  obtain ⟨A, n, c, l, hb, hr⟩ := h
  have hlt := hb.lt
  refine ⟨A, n, c, l, (ho.block g hlt (by simp; omega)).trans hb, hr.keep fun b o hbg => World.cell?_of_block (a := ⟨b, o, none⟩) (ho.block b (by omega) (by simp; omega))⟩
theorem TapeAt.below {w w' : World} {g a : Nat} (h : TapeAt w g a) (hb : Below w.heap.size w w') : TapeAt w' g a := by
  obtain ⟨A, n, c, l, hB, hr⟩ := h
  exact ⟨A, n, c, l, hB.below hb, hr.below (hb.mono (by have := hB.lt; omega))⟩
theorem TapeAt.lt {w : World} {g a : Nat} (h : TapeAt w g a) : g < w.heap.size := by
  obtain ⟨A, n, c, l, hB, hr⟩ := h
  exact hB.lt
theorem tape_tmod (a b : Int) (hb : 0 < b) : -b < a.tmod b ∧ a.tmod b < b := ⟨Int.lt_tmod_of_pos a hb, Int.tmod_lt_of_pos a hb⟩
/-- what is left behind Next: only the tape's block has turned -/
def NextW (w : World) (g a : Nat) (w' : World) : Prop := ∃ a', a' ≤ a + 1 ∧ TapeAt w' g a' ∧ w.grownBy w' (some g)
def RetNext (w : World) (g a : Nat) (n : Int) (e : Ending) (w' : World) : Prop := ∃ r : Int, e = .returned (.int .i64 r) ∧ 0 ≤ r ∧ (r < n ∨ r = 0) ∧ NextW w g a w'

theorem next_any (g a : Nat) (n : Int) (w : World) (h : TapeAt w g a) (ha : a ≤ 1000000) (hn : n ≤ 1000000) :
    Calls Try.prog 27 #[.pointer (some ⟨g, 0, none⟩), .int .i64 n] w (RetNext w g a n) := by
  obtain ⟨A, m, c, l, hb, hr⟩ := h
  have hlen := hr.length (fun _ => rfl) (by omega)
  have hcap := hr.cap
  have hle := hr.le
  unfold maxLen at hcap
  have c0 : w.cell? ⟨g, 0, none⟩ = some (.slice A m c) := hb.cell 0 _ rfl
  have c1 : w.cell? ⟨g, 1, none⟩ = some (.int .i64 a) := hb.cell 1 _ rfl
  have hf := hb.free
  have hT : ∀ k, TapeAt ((w.drewN k).setCell ⟨g, 1, none⟩ (.int .i64 ((a : Int) + 1))) g (a + 1) := fun k =>
    ⟨A, m, c, l, by have := (hb.drewN k).set 1 (.int .i64 ((a : Int) + 1)); exact this, (hr.drewN k).setCell (by show g ≤ g; omega) _⟩
  have hG : ∀ k, w.grownBy ((w.drewN k).setCell ⟨g, 1, none⟩ (.int .i64 ((a : Int) + 1))) (some g) := fun k =>
    ⟨rfl, rfl, rfl, by simp [World.setCell], fun i hi hne => (Below.heap_setCell (w.drewN k) ⟨g, 1, none⟩ _ i (fun e => hne (by rw [e])))⟩
  have HT := Lib.hid hT
  have HG := Lib.hid hG
  have HL := Lib.hid hlen
  clear hT hG hlen
  by_cases hn1 : n < 1
  · go_enter Try.func27, Try.ntmps27
    go_wp2_with fail
    go_ret
    exact ⟨0, rfl, Int.le_refl _, Or.inr rfl, a, by omega, ⟨A, m, c, l, hb, hr⟩, World.grownBy.refl _ _⟩
  have hn0 : 0 < n := by omega
  have key : ∀ v : Int, 0 ≤ (v.tmod n + n).tmod n ∧ (v.tmod n + n).tmod n < n := fun v => by
    obtain ⟨h1, h2⟩ := tape_tmod v n hn0
    have h3 : (v.tmod n + n).tmod n = (v.tmod n + n) % n := Int.tmod_eq_emod_of_nonneg (by omega)
    rw [h3]
    exact ⟨Int.emod_nonneg _ (by omega), Int.emod_lt_of_pos _ hn0⟩
  have KEY := Lib.hid key
  have ht2 : ∀ v : Int, -n < v.tmod n ∧ v.tmod n < n := fun v => tape_tmod v n hn0
  have HT2 := Lib.hid ht2
  clear key ht2
  have hb0 : Blk w g 63 #[.slice A m c, .int .i64 a] := hb
  have HB := Lib.hid hb0
  clear hb0 hb
  by_cases hlt : a < m
  · obtain ⟨b, off, v, rfl, hbb, hv, hc⟩ := hr.elem (fun _ => rfl) (by omega) hlt
    have d0 := hc 0 _ rfl
    rw [Nat.mul_one, Nat.add_zero] at d0
    have k0 : (0 : Int) ≤ (a : Int) := by omega
    have k1 : (a : Int) < (m : Int) := by omega
    have hd : decide ((a : Int) < (m : Int)) = true := decide_eq_true k1
    obtain ⟨q, hq⟩ : ∃ q, v.tmod n = q := ⟨_, rfl⟩
    have hq1 := HT2.out v
    have hk := KEY.out v
    rw [hq] at hq1 hk
    obtain ⟨hq0, hq1⟩ := hq1
    have wq : IntKind.i64.wrap (q + n) = q + n := IntWalk.i64_in _ (by omega)
    clear hc hv
    go_enter Try.func27, Try.ntmps27
    go_wp2_with fail
    go_quiet (fail)
    go_wp2_with fail
    go_quiet (fail)
    go_wp2_with fail
    go_ret
    exact ⟨(q + n) % n, rfl, Int.emod_nonneg _ (by omega), Or.inl (Int.emod_lt_of_pos _ hn0), a + 1, Nat.le_refl _, HT.out _, HG.out _⟩
  · have hd : decide ((a : Int) < (m : Int)) = false := decide_eq_false (by omega)
    have k0 : (0 : Int) ≤ (a : Int) := by omega
    have hq0 := Int.emod_nonneg ((a : Int) * 7 + 3) (show n ≠ 0 by omega)
    have hq1 := Int.emod_lt_of_pos ((a : Int) * 7 + 3) hn0
    obtain ⟨q, hq⟩ : ∃ q, ((a : Int) * 7 + 3) % n = q := ⟨_, rfl⟩
    rw [hq] at hq0 hq1
    have wq : IntKind.i64.wrap (q + n) = q + n := IntWalk.i64_in _ (by omega)
    go_enter Try.func27, Try.ntmps27
    go_wp2_with fail
    go_quiet (fail)
    go_wp2_with fail
    go_ret
    exact ⟨(q + n) % n, rfl, Int.emod_nonneg _ (by omega), Or.inl (Int.emod_lt_of_pos _ hn0), a + 1, Nat.le_refl _, HT.out _, HG.out _⟩
end Go.Proofs.Ytpmdgmgcbminaaa

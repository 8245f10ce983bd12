/- Are registers words? Printed by mk_safe4.py. -/
import Derived.Test.YtpmdgmgcbminaaaSafe3
namespace Go.Proofs.Ytpmdgmgcbminaaa
open Go.ChangeShapes Go.WideShapes Go.RowKit Words

/-- are the registers from a to b-1 words? -/
def wordsS (s : List Srt) (a b : Nat) : Bool := ((s.drop a).take (b - a)).all (fun x => decide (x = .wd))

theorem wordsS_cons {s : List Srt} {a b : Nat} {p : Srt} (h : s[a]? = some p) (hab : a < b) : wordsS s a b = (decide (p = .wd) && wordsS s (a + 1) b) := by
  unfold wordsS
  rw [drop_at h, show b - a = (b - (a + 1)) + 1 by omega, List.take_succ_cons, List.all_cons]
theorem wordsS_nil (s : List Srt) (a : Nat) : wordsS s a a = true := by unfold wordsS; simp
theorem Srt.kind_wd {p : Srt} : (p.kind != 0) = !decide (p = .wd) := by cases p <;> rfl

set_option linter.unusedSimpArgs false in
set_option maxHeartbeats 4000000 in
theorem words_any (s : List Srt) (hs : s.length = 8) (a b : Nat) (hab : a ≤ b) (ha8 : a < 8) (hb : b ≤ 8) (w : World) :
    Calls Try.prog 48 #[.agg (PS s), .int .i64 a, .int .i64 b] w fun e w' => e = .returned (.bool (wordsS s a b)) ∧ Below w.heap.size w w' := by
  have hB : Below w.heap.size w (w.alloc (.cells (PS s) 78)) := keep_alloc (Below.refl _ _) _
  have B2 := Blk.new w (PS s) 78
  have h0 : (0 : Int) ≤ (a : Int) := by omega
  have h1 : (a : Int) ≤ (b : Int) := by omega
  have h2 : (b : Int) ≤ 8 := by omega
  have h3 : (a : Int) < 8 := by omega
  have h4 : ¬ 8 - a = 0 := by omega
  have h5 : ¬ 8 ≤ a := by omega
  go_enter Try.func48, Try.ntmps48
  go_wp2_with fail
  obtain ⟨w0, hw0⟩ : ∃ w0, w.alloc (.cells (PS s) 78) = w0 := ⟨_, rfl⟩
  rw [hw0] at hB B2 ⊢
  clear hw0
  obtain ⟨g, hg⟩ : ∃ g, w.heap.size = g := ⟨_, rfl⟩
  rw [hg] at B2 ⊢
  clear hg
  go_loopw [13] (fun x wq => ∃ k : Nat, a + k ≤ b ∧ x = .int .i64 k ∧ wordsS s a b = wordsS s (a + k) b ∧ Blk wq g 78 (PS s) ∧ Below w.heap.size w wq) (fun x _ => (b - a) - (intOf x).toNat)
  case atStart => exact ⟨0, by omega, rfl, rfl, B2, hB⟩
  case round =>
    clear hB B2
    obtain ⟨k, hk, rfl, hspec, B2, hB⟩ := hrel
    by_cases hlt : a + k < b
    · obtain ⟨p, hp⟩ : ∃ p, s[a + k]? = some p := ⟨_, List.getElem?_eq_getElem (by omega)⟩
      obtain ⟨c0, c1⟩ := srt_far B2 hp
      rw [Nat.add_mul] at c0 c1
      have hsp := wordsS_cons hp hlt
      have k0 : (0 : Int) ≤ (k : Int) := by omega
      have k1 : (k : Int) < ((b - a : Nat) : Int) := by omega
      have k2 : decide ((k : Int) < ((b - a : Nat) : Int)) = true := decide_eq_true k1
      have k3 : decide (k < b - a) = true := decide_eq_true (by omega)
      have kw : (p.kind != 0) = !decide (p = .wd) := Srt.kind_wd
      obtain ⟨pb, hpb⟩ : ∃ pb, decide (p = Srt.wd) = pb := ⟨_, rfl⟩
      rw [hpb] at kw hsp
      rw [hsp] at hspec
      have HS := Lib.hid hspec
      have HK := Lib.hid hk
      have HLT := Lib.hid hlt
      clear hspec hsp hp hpb hk hlt
      cases pb with
      | true =>
        have kw2 : (p.kind != 0) = false := kw
        clear kw
        go_wp2_with fail
        go_roundw
        case rel => exact ⟨k + 1, HLT.out, by go_num, HS.out.trans (by simp [Nat.add_assoc]), B2.alloc _, keep_alloc hB _⟩
        case measure => have := HLT.out; simp [intOf]; omega
      | false =>
        have kw2 : (p.kind != 0) = true := kw
        clear kw
        go_wp2_with fail
        go_ret
        exact ⟨by rw [HS.out]; rfl, keep_alloc hB _⟩
    · have k2 : decide ((k : Int) < ((b - a : Nat) : Int)) = false := decide_eq_false (by omega)
      have k3 : decide (k < b - a) = false := decide_eq_false (by omega)
      have hsp : wordsS s a b = true := by rw [hspec, show a + k = b by omega, wordsS_nil]
      have HS := Lib.hid hsp
      clear hspec hsp hlt hk
      go_wp2_with fail
      go_ret
      exact ⟨by rw [HS.out]; rfl, hB⟩
end Go.Proofs.Ytpmdgmgcbminaaa

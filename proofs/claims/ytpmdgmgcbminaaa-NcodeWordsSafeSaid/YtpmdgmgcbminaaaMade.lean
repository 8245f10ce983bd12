/- The contract of made: a native program out of a tape. -/
import Derived.Test.YtpmdgmgcbminaaaNative
import Derived.Test.YtpmdgmgcbminaaaNcode6
namespace Go.Proofs.Ytpmdgmgcbminaaa
open Go.RowKit Words

theorem decC_len (l : List (BitVec 64)) : (decC l).2.1.length ≤ 256 := by
  unfold decC
  cases l with
  | nil => simp
  | cons g r =>
    dsimp only
    split
    · cases decGo r with
      | none => simp
      | some z =>
        dsimp only
        by_cases hf : formedC (U g) z = true
        · rw [if_pos hf]; exact (formedC_parts hf).2.1
        · rw [if_neg hf]; simp
    · simp
theorem Reads.notIn {w : World} {B s n c g : Nat} {t : TypeId} {A : Option Addr} {xs : List Value} {cs : Array Value} (h : Reads w B s A n c xs) (hb : Blk w g t cs) (h0 : 0 < n → ∃ u, xs[0]? = some u ∧ u ∉ cs.toList) : ∀ b off, 0 < n → A = some ⟨b, off, none⟩ → b ≠ g := by
  intro b off hn hA hbg
  obtain ⟨b', off', hA', hbB, hc⟩ := h.at_ hn
  rw [hA] at hA'
  simp only [Option.some.injEq, Addr.mk.injEq, and_true] at hA'
  obtain ⟨rfl, rfl⟩ := hA'
  subst hbg
  obtain ⟨u, hu, hnot⟩ := h0 hn
  have := hc 0 u hu
  rw [cell_of_row w b (off + 0) cs t (0, 0) hb] at this
  exact hnot (by have := Array.mem_of_getElem? this; simpa using this)
theorem Reads.farA {w : World} {B s n c : Nat} {A : Option Addr} {xs : List Value} (h : Reads w B s A n c xs) {p : Addr} (hne : ∀ b off, 0 < n → A = some ⟨b, off, none⟩ → b ≠ p.block) (u : Value) : Reads (w.setCell p u) B s A n c xs :=
  ⟨h.len, h.le, h.cap, h.none_, fun hn => by
    obtain ⟨b, off, hA, hb, hc⟩ := h.at_ hn
    exact ⟨b, off, hA, hb, fun j v hj => (World.cell?_setCell_other w p ⟨b, _, none⟩ u (fun e => hne b off hn hA (by rw [e]))).trans (hc j v hj)⟩⟩

def RetMade (w : World) (e : Ending) (w' : World) : Prop :=
  ∃ (g : Int) (l : List NI) (A : Option Addr) (c : Nat), e = .returned (codeV g A l.length c) ∧ Reads w' w'.heap.size 5 A l.length c (l.flatMap insCells) ∧ l.length ≤ 57 ∧ (0 ≤ g ∧ g ≤ 3) ∧ (∀ x ∈ l, Fit l.length [0, 1, 2] x) ∧ Below w.heap.size w w'

set_option maxRecDepth 100000 in
set_option maxHeartbeats 1000000 in
theorem made_any (A : Option Addr) (n c : Nat) (tl : List Int) (w : World) (h : Reads w w.heap.size 1 A n c (tl.flatMap intCells)) :
    Calls Try.prog 12 #[.slice A n c] w (RetMade w) := by
  have hB0 : Below w.heap.size w ((w.alloc (.cells #[.int .i64 0, .slice none 0 0] 27)).alloc (.cells #[.slice A n c, .int .i64 0] 63)) := keep_alloc (code_alloc w _ 0 none 0 0) _
  have R0 := (Blk.new w #[.int .i64 0, .slice none 0 0] 27).alloc (.cells #[.slice A n c, .int .i64 0] 63)
  have T0 := Blk.newAt (w.alloc (.cells #[.int .i64 0, .slice none 0 0] 27)) #[.slice A n c, .int .i64 0] 63 (w.heap.size + 1) (by simp)
  go_enter Try.func12, Try.ntmps12
  go_wp2_with fail
  obtain ⟨w1, hw1⟩ : ∃ w1, ((w.alloc (.cells #[.int .i64 0, .slice none 0 0] 27)).alloc (.cells #[.slice A n c, .int .i64 0] 63)) = w1 := ⟨_, rfl⟩
  have hs1 : w1.heap.size = w.heap.size + 2 := by rw [← hw1]; simp
  rw [hw1] at hB0 R0 T0 ⊢
  clear hw1
  have hT1 : TapeAt w1 (w.heap.size + 1) 0 := ⟨A, n, c, tl, T0, (h.below hB0).more (by omega)⟩
  have HS1 := Lib.hid hs1
  clear hs1
  refine (next_any (w.heap.size + 1) 0 4 _ hT1 (by omega) (by omega)).mono ?_
  rintro e w2 ⟨g, rfl, hg0, hg1, t2, ht2, hT2, hG2⟩
  have hs2 := hG2.size
  rw [HS1.out] at hs2
  have R2 := R0.only hG2 (by omega)
  have hB2 : Below w.heap.size w w2 := hB0.trans (below_only hG2 (by omega) (by rw [HS1.out]; omega))
  have hF := Reads.freshAs w2 #[.int .i64 0, .int .i64 1, .int .i64 2] 3 1 3 (([0, 1, 2] : List Int).flatMap intCells) rfl rfl (by decide)
  have hT3 := hT2.below (keep_alloc (Below.refl _ _) (.cells #[.int .i64 0, .int .i64 1, .int .i64 2] 3))
  have R3 := R2.alloc (.cells #[.int .i64 0, .int .i64 1, .int .i64 2] 3)
  have hB3 := keep_alloc hB2 (.cells #[.int .i64 0, .int .i64 1, .int .i64 2] 3)
  go_wp2_with fail
  refine (native_any (w.heap.size + 1) t2 3 g (some ⟨w2.heap.size, 0, none⟩) 3 [0, 1, 2] _ hT3 (by omega) hF (fun b off e => by simp only [Option.some.injEq, Addr.mk.injEq] at e; omega) (by omega) (by omega) (by decide)).mono ?_
  rintro e w4 ⟨l, A4, c4, t4, rfl, hr4, hl4, hfit, -, -, hG4⟩
  have hs4 := hG4.size
  simp only [World.size_alloc] at hs4
  have R4 := R3.only hG4 (by omega)
  have hB4 : Below w.heap.size w w4 := hB3.trans (below_only hG4 (by omega) (by simp; omega))
  have r0 : w4.cell? ⟨w.heap.size, 0, none⟩ = some (.int .i64 0) := R4.cell 0 _ rfl
  have r1 : w4.cell? ⟨w.heap.size, 1, none⟩ = some (.slice none 0 0) := R4.cell 1 _ rfl
  have fr := R4.free
  have hne := hr4.notIn R4 (fun hn => by
    cases l with
    | nil => simp at hn
    | cons x r =>
      refine ⟨.int .i64 x.op, rfl, ?_⟩
      have := ((formedI_iff x).1 (hfit x List.mem_cons_self).form).1.1
      simp; omega)
  have hr5 := (hr4.farA (p := ⟨w.heap.size, 0, none⟩) hne (.int .i64 g)).farA (p := ⟨w.heap.size, 1, none⟩) hne (.slice A4 l.length c4)
  have hr6 := hr5.more (B' := ((w4.setCell ⟨w.heap.size, 0, none⟩ (.int .i64 g)).setCell ⟨w.heap.size, 1, none⟩ (.slice A4 l.length c4)).heap.size) (by simp)
  have HR := Lib.hid hr6
  clear hr5 hr6 hr4
  go_wp2_with fail
  refine bodyPost_ret (v := codeV g A4 l.length c4) (by simp [results, Try.results12, go_sem, r0, r1]) rfl ?_
  exact ⟨g, l, A4, c4, rfl, HR.out, hl4, ⟨hg0, by omega⟩, hfit, (hB4.setCell (by simp) _).setCell (by simp) _⟩
end Go.Proofs.Ytpmdgmgcbminaaa

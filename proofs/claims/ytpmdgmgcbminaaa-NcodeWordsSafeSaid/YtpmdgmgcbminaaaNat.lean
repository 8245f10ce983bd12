/- The contract of nat; how worlds behind the tape are put together. -/
import Derived.Test.YtpmdgmgcbminaaaTape
import Derived.Test.YtpmdgmgcbminaaaNcode1
namespace Go.Proofs.Ytpmdgmgcbminaaa
open Go.RowKit Words

theorem only_below {w w1 w2 : World} {g : Nat} (h : w.grownBy w1 (some g)) (hb : Below w1.heap.size w1 w2) : w.grownBy w2 (some g) :=
  h.trans ⟨hb.os, hb.tape, hb.output, hb.size, fun i hi _ => hb.block i hi⟩
theorem only_refl_below {w w2 : World} (g : Nat) (hb : Below w.heap.size w w2) : w.grownBy w2 (some g) := only_below (World.grownBy.refl _ _) hb
/-- below the tape's block nothing has turned -/
theorem below_only {w w' : World} {g B : Nat} (h : w.grownBy w' (some g)) (hB : B ≤ g) (hg : g < w.heap.size) : Below B w w' :=
  ⟨h.os, h.tape, h.output, h.size, fun k hk => h.block k (by omega) (by simp; omega)⟩
theorem Reads.only {w w' : World} {B s n c g : Nat} {A : Option Addr} {xs : List Value} (hr : Reads w B s A n c xs) (h : w.grownBy w' (some g)) (hB : B ≤ w.heap.size) (hA : ∀ b off, A = some ⟨b, off, none⟩ → b ≠ g) : Reads w' B s A n c xs :=
  ⟨hr.len, hr.le, hr.cap, hr.none_, fun hn => by
    obtain ⟨b, off, e, hb, hc⟩ := hr.at_ hn
    exact ⟨b, off, e, hb, fun j u hu => (World.cell?_of_block (a := ⟨b, _, none⟩) (h.block b (by omega) (by have := hA b off e; simp; omega))).trans (hc j u hu)⟩⟩

set_option maxRecDepth 100000 in
set_option maxHeartbeats 2000000 in
theorem nat_any (op a b c k : Int) (w : World) :
    Calls Try.prog 43 #[.int .i64 op, .int .i64 a, .int .i64 b, .int .i64 c, .int .u64 k] w fun e w' => e = .returned (.agg #[.int .i64 op, .int .i64 a, .int .i64 b, .int .i64 c, .int .u64 k]) ∧ Below w.heap.size w w' := by
  go_enter Try.func43, Try.ntmps43
  go_wp2_with fail
  refine bodyPost_ret (v := .agg #[.int .i64 op, .int .i64 a, .int .i64 b, .int .i64 c, .int .u64 k]) (by simp [results, Try.results43, go_sem]) rfl ?_
  exact ⟨rfl, keep_alloc (Below.refl _ _) _⟩

/-- what is so of each instruction that is made -/
def R0 (nf : Nat) (x : NI) : Prop := formedI x = true ∧ (x.op = 14 → x.b < nf) ∧ (x.op = 13 → 1 ≤ x.b ∧ x.b ≤ 20) ∧ ((2 ≤ x.op ∧ x.op ≤ 8) ∨ x.op = 11 ∨ x.op = 12 → x.b ≤ 7)
theorem R0.mk' {nf : Nat} {x : NI} (ho : 1 ≤ x.op ∧ x.op ≤ 17) (ha : 0 ≤ x.a ∧ x.a < 8) (hb : 0 ≤ x.b ∧ x.b ≤ 20) (hc : 0 ≤ x.c ∧ x.c < 8) (h14 : x.op = 14 → x.b < nf) (h13 : x.op = 13 → 1 ≤ x.b) (h7 : ((2 ≤ x.op ∧ x.op ≤ 8) ∨ x.op = 11 ∨ x.op = 12) → x.b ≤ 7) : R0 nf x :=
  ⟨(formedI_iff x).2 ⟨ho, ha, ⟨hb.1, by omega⟩, hc⟩, h14, fun h => ⟨h13 h, hb.2⟩, h7⟩
end Go.Proofs.Ytpmdgmgcbminaaa

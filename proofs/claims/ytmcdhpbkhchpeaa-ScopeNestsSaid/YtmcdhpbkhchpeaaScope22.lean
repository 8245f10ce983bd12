/- slices.Backward at scopes: the iterator's contract. -/
import Derived.Test.YtmcdhpbkhchpeaaScope15
import Derived.RangeFuncNested
import Derived.RangeFuncBound
import Derived.RangeFuncCalls
import Derived.RangeFuncLeaves
import Derived.Shelf.Abstract
import Derived.Shelf.RegionOpen
import Derived.WalkKit
import Derived.OwnWalkIn
import Derived.TacticsInMore
import Derived.LoopNIn
import Derived.LoopIn
namespace Go.Proofs.Ytmcdhpbkhchpeaa
open Go.ChangeShapes Go.WideShapes Go.RowKit Words

attribute [local go_sem] Oper.semAt_some

/-- the last k scopes, from the last on -/
def downto (P : List Sc) : Nat → List (Fin P.length)
  | 0 => []
  | k + 1 => if h : k < P.length then downto P k ++ [⟨P.length - 1 - k, by omega⟩] else downto P k
theorem downto_succ (P : List Sc) (k : Nat) (h : k < P.length) : downto P (k + 1) = downto P k ++ [⟨P.length - 1 - k, by omega⟩] := dif_pos h
theorem downto_len (P : List Sc) (k : Nat) (h : k ≤ P.length) : (downto P k).length = k := by
  induction k with
  | zero => rfl
  | succ k ih => rw [downto_succ P k (by omega), List.length_append, ih (by omega)]; rfl
def scAt (P : List Sc) (k : Nat) : Sc := P[k]?.getD ⟨0, 0, false⟩
theorem scAt_of {P : List Sc} {k : Nat} {q : Sc} (h : P[k]? = some q) : scAt P k = q := by unfold scAt; rw [h]; rfl
abbrev scV (q : Sc) : Value := .agg #[.int .i64 q.from_, .int .i64 q.cap, .bool q.base]

set_option maxRecDepth 100000 in
set_option maxHeartbeats 4000000 in
theorem back1_in (F : Fence) (n : Nat) (hF : F.fn 53) (hro : F.round = none) (hn : 1 ≤ n) (l Bs n₀ : Nat) (Ap : Option Addr) (np cp : Nat) (P : List Sc) (hBsn : Bs < n₀) (J Jx : List (Fin P.length) → World → Prop)
    (hY : ∀ pre x W, J pre W → pre.length < np → YieldAt F (n - 1) Try.prog l #[.int .i64 (x.val : Int), scV (scAt P x.val)] W fun e W' =>
      (e = .returned (.bool true) ∧ J (pre ++ [x]) W' ∧ Below n₀ W W') ∨ (e = .returned (.bool false) ∧ Jx (pre ++ [x]) W'))
    (W : World) (hBs : W.cell? ⟨Bs, 0, none⟩ = some (.slice Ap np cp)) (hRd : Reads W n₀ 3 Ap np cp (P.flatMap scCells)) (h0 : J [] W) :
    CallsIn F n Try.prog 53 #[.func (.yield l) #[] #[], .pointer (some ⟨Bs, 0, none⟩)] W fun e W' => (∃ v, e = .returned v) ∧
      ((∃ ys, ys = downto P np ∧ J ys W') ∨ (∃ pre, (∃ k, k ≤ np ∧ pre = downto P k) ∧ Jx pre W')) := by
  have hP := hRd.length scCells_len (by omega)
  have hcap := hRd.cap
  have hle := hRd.le
  unfold maxLen at hcap
  have hw0 : IntKind.i64.wrap ((np : Int) - 1) = (np : Int) - 1 := IntWalk.i64_in _ (by omega)
  refine callsIn_of_wp Try.func53 rfl hF ?_ hro
  simp only [Try.ntmps53, List.size_toArray, List.length_cons, List.length_nil, Nat.reduceAdd, Nat.reduceSub, Array.replicate_succ, Array.replicate_zero, List.push_toArray, List.append_toArray, List.nil_append, List.cons_append]
  gi_wp2
  gi_loopw [3] (fun i wr => ∃ k : Nat, k ≤ np ∧ i = .int .i64 ((np : Int) - 1 - k) ∧ J (downto P k) wr ∧ Below n₀ W wr) (fun i _ => (intOf i + 1).toNat)
  case atStart => exact ⟨0, Nat.zero_le _, by simp, h0, Below.refl _ _⟩
  case round =>
    obtain ⟨k, hk, rfl, hJs, hnx⟩ := hrel
    by_cases hlt : k < np
    · obtain ⟨m, hm⟩ : ∃ m : Nat, np = m + 1 + k := ⟨np - 1 - k, by omega⟩
      have hi : (np : Int) - 1 - k = (m : Int) := by omega
      rw [hi]
      obtain ⟨b, off, q, rfl, hbb, hq, hc⟩ := (hRd.below hnx (B := n₀)).elem scCells_len (by omega) (show m < np by omega)
      have hJm : P.length - 1 - k = m := by omega
      have hmP : m < P.length := by omega
      obtain ⟨fn, tmps, assign, body, hy, hR⟩ := hY _ ⟨m, hmP⟩ wr hJs (by rw [downto_len P k (by omega)]; exact hlt)
      dsimp only at hy
      rw [scAt_of hq] at hy
      have d0 := hc 0 _ rfl
      have d1 := hc 1 _ rfl
      have d2 := hc 2 _ rfl
      rw [Nat.add_zero] at d0
      have b0 : wr.cell? ⟨Bs, 0, none⟩ = some (.slice (some ⟨b, off, none⟩) np cp) := (hnx.cell (p := ⟨Bs, 0, none⟩) hBsn).trans hBs
      have k0 : (0 : Int) ≤ (m : Int) := by omega
      have k1 : (m : Int) < (np : Int) := by omega
      have e0 : decide ((0 : Int) ≤ (m : Int)) = true := decide_eq_true k0
      have hw1 : IntKind.i64.wrap ((m : Int) - 1) = (m : Int) - 1 := IntWalk.i64_in _ (by omega)
      have hds : downto P (k + 1) = downto P k ++ [⟨m, hmP⟩] := by rw [downto_succ P k (by omega)]; simp only [hJm]
      have HD := Lib.hid hds
      have HI := Lib.hid hi
      clear hc hq hds hJm hw0 hP hm hi
      gi_wp2
      refine hR.mono ?_
      rintro e W3 (⟨rfl, hJ3, hk3⟩ | ⟨rfl, hJx3⟩)
      · gi_wp2
        go_roundw
        case rel => exact ⟨k + 1, by omega, by have := HI.out; congr 1; omega, by rw [HD.out]; exact hJ3, hnx.trans hk3⟩
        case measure => first | (simp [intOf]; done) | (simp [intOf]; omega)
      · gi_wp2
        refine bodyPost_ret (results_none rfl _ _ _) rfl ?_
        exact ⟨⟨_, rfl⟩, .inr ⟨_, ⟨k + 1, by omega, HD.out.symm⟩, hJx3⟩⟩
    · obtain rfl : k = np := by omega
      have hi : (k : Int) - 1 - k = -1 := by omega
      rw [hi]
      gi_wp2
      go_end0
      exact ⟨⟨_, rfl⟩, .inl ⟨_, rfl, hJs⟩⟩
theorem back_in (F : Fence) (n : Nat) (hF : F.fn 46) (hro : F.round = none) (Ap : Option Addr) (np cp : Nat) (w : World) :
    CallsIn F n Try.prog 46 #[.slice Ap np cp] w fun e w' => e = .returned (.func (.func 53) #[] #[.pointer (some ⟨w.heap.size, 0, none⟩)]) ∧ w' = w.alloc (.cells #[.slice Ap np cp] 23) := by
  refine callsIn_of_wp Try.func46 rfl hF ?_ hro
  simp only [Try.ntmps46, List.size_toArray, List.length_cons, List.length_nil, Nat.reduceAdd, Nat.reduceSub, Array.replicate_succ, Array.replicate_zero, List.push_toArray, List.append_toArray, List.nil_append, List.cons_append]
  gi_wp2
  go_ret
  exact ⟨rfl, rfl⟩
theorem back_stops (F : Fence) (n : Nat) (hF : F.fn 53) (hro : F.round = none) (hn : 1 ≤ n) (Bs n₀ : Nat) (Ap : Option Addr) (np cp : Nat) (P : List Sc) (w : World) (hBsn : Bs < n₀) (hn₀ : n₀ ≤ w.heap.size)
    (hBs : w.cell? ⟨Bs, 0, none⟩ = some (.slice Ap np cp)) (hRd : Reads w n₀ 3 Ap np cp (P.flatMap scCells)) :
    SeqStopsK F n Try.prog 53 #[.pointer (some ⟨Bs, 0, none⟩)] (fun x : Fin P.length => #[.int .i64 (x.val : Int), scV (scAt P x.val)]) (Below n₀) (fun ys => ys = downto P np) (fun pre => ∃ k, k ≤ np ∧ pre = downto P k) np w := fun l J Jx W hW _ _ hY h0 =>
  back1_in F n hF hro hn l Bs n₀ Ap np cp P hBsn J Jx hY W ((hW.cell (p := ⟨Bs, 0, none⟩) (by show Bs < _; omega)).trans hBs) (hRd.below (hW.mono hn₀)) h0
theorem blk_kept {A B : World} {row : Option Nat} {g : Nat} {t : TypeId} {cs : Array Value} (h : Blk A g t cs) (hg : A.grownBy B row) (hr : ∀ r, row = some r → ∃ o : Obj, A.heap[r]? = some o ∧ o.isCells = false) : Blk B g t cs :=
  (grownBy_keeps_cells hg hr h rfl).trans h
theorem reads_kept {A B : World} {row : Option Nat} {s n c : Nat} {As : Option Addr} {xs : List Value} (h : Reads A A.heap.size s As n c xs) (hg : A.grownBy B row) (hr : ∀ r, row = some r → ∃ o : Obj, A.heap[r]? = some o ∧ o.isCells = false) : Reads B B.heap.size s As n c xs :=
  ⟨h.len, h.le, h.cap, h.none_, fun hn => by
    obtain ⟨b, off, e, hb, hc⟩ := h.at_ hn
    exact ⟨b, off, e, by have := hg.size; omega, fun j u hu => cell_kept (hc j u hu) hg hr⟩⟩
theorem lrd_kept {A B : World} {row : Option Nat} {As Ap Ai : Option Addr} {ns cs np cp ni ci : Nat} {S : List Sl} {P : List Sc} {I : List Int} (h : LRd A As ns cs Ap np cp Ai ni ci S P I) (hg : A.grownBy B row) (hr : ∀ r, row = some r → ∃ o : Obj, A.heap[r]? = some o ∧ o.isCells = false) :
    LRd B As ns cs Ap np cp Ai ni ci S P I := ⟨reads_kept h.s hg hr, reads_kept h.p hg hr, reads_kept h.i hg hr⟩
end Go.Proofs.Ytmcdhpbkhchpeaa

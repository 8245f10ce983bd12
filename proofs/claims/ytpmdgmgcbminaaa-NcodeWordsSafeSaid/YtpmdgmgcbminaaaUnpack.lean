/- The contracts of Unpack, of the references' proper, Pack and Unpack, and of Same. -/
import Derived.Test.YtpmdgmgcbminaaaPack
import Derived.Test.YtpmdgmgcbminaaaOpen
import Derived.BigQuiet
import Derived.Deep.QuietTactic
import Derived.Deep.RegionHeld3
namespace Go.Proofs.Ytpmdgmgcbminaaa
open Go.RowKit Words

attribute [local go_sem ↓] Words.bits_and Words.bits_or Words.bits_andNot Words.shr_any Words.shl_any Words.wrap_U




theorem tyWords : SlTy Try.prog 28 56 1 8 := SlTy.mk' (z := .int .u64 0) Try.underlying28 (by kernel_rfl) rfl (by omega)
theorem tyInts : SlTy Try.prog 29 3 1 8 := SlTy.mk' (z := .int .i64 0) Try.underlying29 (by kernel_rfl) rfl (by omega)

/-- are the widths allowed? -/
def unOk : List Int → Int → Bool
  | [], _ => true
  | x :: r, left => !(decide (x < 1)) && !(decide (left < x)) && unOk r (left - x)
def unGo : List Int → BitVec 64 → List (BitVec 64) × BitVec 64
  | [], w => ([], w)
  | x :: r, w => ((w &&& ones x.toNat) :: (unGo r (w >>> x.toNat)).1, (unGo r (w >>> x.toNat)).2)
def unpack (w : BitVec 64) (l : List Int) : List (BitVec 64) × Int :=
  if unOk l 64 = true then (if ((unGo l w).2 == 0#64) = true then ((unGo l w).1, 0) else ([], 2)) else ([], 1)

theorem unGo_len (l : List Int) (w : BitVec 64) : (unGo l w).1.length = l.length := by
  induction l generalizing w with
  | nil => rfl
  | cons x r ih => simp [unGo, ih]
theorem wOk_map (l : List (Int × BitVec 64)) (left : Int) : wOk l left = unOk (l.map (·.1)) left := by
  induction l generalizing left with
  | nil => rfl
  | cons p r ih => simp [wOk, unOk, ih]
theorem unOk_len (l : List Int) (left : Int) (h : unOk l left = true) (h0 : 0 ≤ left) : (l.length : Int) ≤ left := by
  induction l generalizing left with
  | nil => simpa using h0
  | cons x r ih =>
    simp only [unOk, Bool.and_eq_true, Bool.not_eq_true', decide_eq_false_iff_not] at h
    have := ih (left - x) h.2 (by omega)
    simp only [List.length_cons]
    omega
theorem zero_iff (w : BitVec 64) (n : Nat) : (w &&& ~~~ones n == 0#64) = (w >>> n == 0#64) := by
  rw [Bool.eq_iff_iff, beq_iff_eq, beq_iff_eq]
  constructor
  · intro h
    apply BitVec.eq_of_getLsbD_eq
    intro i hi
    rw [BitVec.getLsbD_ushiftRight, BitVec.getLsbD_zero]
    by_cases h64 : n + i < 64
    · have := congrArg (fun b => b.getLsbD (n + i)) h
      simp only [BitVec.getLsbD_and, BitVec.getLsbD_not, getLsbD_ones, h64, decide_true, Bool.true_and, Bool.and_true, BitVec.getLsbD_zero] at this
      have hn : ¬ n + i < n := by omega
      simpa [hn] using this
    · exact BitVec.getLsbD_of_ge _ _ (by omega)
  · intro h
    apply BitVec.eq_of_getLsbD_eq
    intro i hi
    simp only [BitVec.getLsbD_and, BitVec.getLsbD_not, getLsbD_ones, hi, decide_true, Bool.true_and, Bool.and_true, BitVec.getLsbD_zero]
    by_cases hn : i < n
    · simp [hn]
    · have := congrArg (fun b => b.getLsbD (i - n)) h
      simp only [BitVec.getLsbD_ushiftRight, BitVec.getLsbD_zero] at this
      rw [show n + (i - n) = i by omega] at this
      simp [this]

/-- a list of words and an error code come back, in new memory -/
def RetWs (w : World) (r : List (BitVec 64) × Int) (e : Ending) (w' : World) : Prop :=
  ∃ A c, e = .returned (.tuple #[.slice A r.1.length c, .int .i64 r.2]) ∧ Reads w' w'.heap.size 1 A r.1.length c (r.1.flatMap wordCells) ∧ Below w.heap.size w w'

/-- the same, in memory of the call's own -/
def RetWsO (w : World) (r : List (BitVec 64) × Int) (e : Ending) (w' : World) : Prop :=
  ∃ A c, e = .returned (.tuple #[.slice A r.1.length c, .int .i64 r.2]) ∧ w'.ownsRow w.heap.size 56 1 (.slice A r.1.length c) r.1.length (r.1.flatMap wordCells) ∧ Below w.heap.size w w'
theorem unpack_own (x : BitVec 64) (A : Option Addr) (n c : Nat) (l : List Int) (w : World) (h : Reads w w.heap.size 1 A n c (l.flatMap intCells)) :
    Calls Try.prog 31 #[.int .u64 (U x), .slice A n c] w (RetWsO w (unpack x l)) := by
  have hlen := h.length (fun _ => rfl) (by omega)
  have hcap := h.cap
  have hle := h.le
  unfold maxLen at hcap
  go_enter Try.func31, Try.ntmps31
  go_wp2_with fail
  go_loop [6, 14] (fun x i => ∃ (k : Nat) (left : Int), k ≤ n ∧ i = .int .i64 k ∧ x = .int .i64 left ∧ 0 ≤ left ∧ left ≤ 64 ∧ unOk l 64 = unOk (l.drop k) left) (fun _ i => n - (intOf i).toNat)
  case atStart => exact ⟨0, 64, Nat.zero_le _, rfl, rfl, by omega, by omega, rfl⟩
  case round =>
    obtain ⟨k, left, hk, rfl, rfl, hl0, hl1, hspec⟩ := hrel
    by_cases hlt : k < n
    · obtain ⟨b, off, a, rfl, hbb, ha, hc⟩ := h.elem (fun _ => rfl) (by omega) hlt
      have c0 := hc 0 _ rfl
      rw [Nat.mul_one, Nat.add_zero] at c0
      rw [drop_at ha, unOk] at hspec
      have H := Lib.hid hspec
      have HL := Lib.hid hlen
      clear hspec ha hlen hc
      by_cases t0 : a < 1
      · go_wp2
        go_ret2
        exact ⟨none, 0, by unfold unpack; rw [H.out]; simp [t0], by unfold unpack; rw [H.out]; simp [t0]; exact World.ownsRow_nil _ _ _ _, Below.refl _ _⟩
      · by_cases t1 : left < a
        · go_wp2
          go_ret2
          exact ⟨none, 0, by unfold unpack; rw [H.out]; simp [t1], by unfold unpack; rw [H.out]; simp [t1]; exact World.ownsRow_nil _ _ _ _, Below.refl _ _⟩
        · go_wp2
          go_round
          case rel => exact ⟨k + 1, left - a, by omega, by go_num, rfl, by omega, by omega, by rw [H.out]; simp [t0, t1]⟩
          case measure => simp [intOf]; omega
    · have hend := drop_end hlen hlt
      rw [hend, unOk] at hspec
      have h64 := unOk_len l 64 hspec (by omega)
      have HS := Lib.hid hspec
      have HL := Lib.hid hlen
      rw [hlen] at h64
      clear hspec hlen hend
      go_wp2_with fail
      go_loopw [0, 9, 31] (fun x0 v i wr => ∃ (k : Nat) (z : BitVec 64) (acc : List (BitVec 64)) (left : Int), k ≤ n ∧ i = .int .i64 k ∧ x0 = .int .u64 (U z) ∧ acc.length = k ∧ wr.ownsRow w.heap.size 56 1 v k (acc.flatMap wordCells) ∧ Below w.heap.size w wr ∧
          unOk (l.drop k) left = true ∧ unGo l x = (acc ++ (unGo (l.drop k) z).1, (unGo (l.drop k) z).2)) (fun _ _ i _ => n - (intOf i).toNat)
      case atStart => exact ⟨0, x, [], 64, Nat.zero_le _, rfl, rfl, rfl, World.ownsRow_nil _ _ _ _, Below.refl _ _, HS.out, rfl⟩
      case round =>
        obtain ⟨k, z, acc, left, hk, rfl, rfl, hacc, hown, hb, hok, hspec⟩ := hrel
        have hsz := hb.size
        by_cases hlt : k < n
        · obtain ⟨b, off, a, rfl, hbb, ha, hc⟩ := (h.below hb).elem (fun _ => rfl) (by omega) hlt
          have c0 := hc 0 _ rfl
          rw [Nat.mul_one, Nat.add_zero] at c0
          rw [drop_at ha, unOk] at hok
          rw [drop_at ha, unGo] at hspec
          simp only [Bool.and_eq_true, Bool.not_eq_true', decide_eq_false_iff_not] at hok
          obtain ⟨⟨t0, t1⟩, hok⟩ := hok
          have ha0 : 0 ≤ a := by omega
          have H := Lib.hid hspec
          have HA := Lib.hid hacc
          clear hspec ha hc hacc
          go_wp2_with (first
            | (go_at_call 46; refine (ones_any _ _).mono ?_; rintro e w' ⟨rfl, rfl⟩)
            | (at_builtin; refine wpList_app rfl _ _ _ rfl tyWords rfl (hown.alloc _) rfl (Reads.fresh _ _ _ 1 1 rfl (by decide)) (by simp [Value.oneCell']) ?c1 ?c2 ?c3 ?_))
          case c1 => unfold maxLen; omega
          case c2 => omega
          case c3 => first | omega | (simp; omega)
          intro v' w1 hown' hb'
          go_wp2
          go_roundw
          case rel =>
            refine ⟨k + 1, z >>> a.toNat, acc ++ [z &&& ones a.toNat], left - a, by omega, by go_num, rfl, by rw [List.length_append, HA.out]; rfl, ?_, ?_, hok, ?_⟩
            · rw [List.flatMap_append]; exact hown'
            · exact (hb.alloc hsz _).trans hb'
            · rw [H.out]; simp
          case measure => simp [intOf]; omega
        · have hend := drop_end HL.out hlt
          rw [hend, unGo] at hspec
          have H := Lib.hid hspec
          have hkn : k = n := by omega
          subst hkn
          clear hspec hend hok
          obtain ⟨A', c', rfl, hr⟩ := Reads.own hown
          by_cases hz : z = 0#64
          · subst hz
            have hz' : (U 0#64 != 0) = false := rfl
            go_wp2_with fail
            go_ret2
            have e1 : unpack x l = (acc, 0) := by unfold unpack; rw [if_pos HS.out, H.out]; simp
            rw [e1]
            exact ⟨A', c', by rw [hacc]; rfl, by rw [hacc]; exact hown, hb⟩
          · have hz' : (U z != 0) = true := by
              have := U_ne z 0#64
              rw [show U 0#64 = 0 from rfl] at this
              rw [this]; simpa using hz
            have HZ := Lib.hid hz
            clear hz
            go_wp2_with fail
            go_ret2
            have e1 : unpack x l = ([], 2) := by unfold unpack; rw [if_pos HS.out, H.out]; simp [HZ.out]
            rw [e1]
            exact ⟨none, 0, rfl, World.ownsRow_nil _ _ _ _, hb⟩
theorem unpack_any (x : BitVec 64) (A : Option Addr) (n c : Nat) (l : List Int) (w : World) (h : Reads w w.heap.size 1 A n c (l.flatMap intCells)) :
    Calls Try.prog 31 #[.int .u64 (U x), .slice A n c] w (RetWs w (unpack x l)) :=
  (unpack_own x A n c l w h).mono fun _ _ ⟨A', c', he, ho, hb⟩ => by
    obtain ⟨A2, c2, e2, hr⟩ := Reads.own ho
    injection e2 with x1 x2 x3
    subst x1 x3
    exact ⟨A', c', he, hr, hb⟩
end Go.Proofs.Ytpmdgmgcbminaaa

/- The contracts of Pack. -/
import Derived.Test.YtpmdgmgcbminaaaOnes
import Derived.Test.YtpmdgmgcbminaaaMem
namespace Go.Proofs.Ytpmdgmgcbminaaa
open Go.RowKit Words

attribute [local go_sem ↓] Words.bits_or_one Words.bits_or Words.bits_and Words.bits_andNot Words.shr_any Words.shl_any

theorem ret_b {x y : Bool} (h : x = y) : Ending.returned (.bool x) = .returned (.bool y) := by rw [h]

theorem fits_any (v : BitVec 64) (n : Int) (w : World) :
    Calls Try.prog 45 #[.int .u64 (U v), .int .i64 n] w fun e w' => e = .returned (.bool (v &&& ~~~ones n.toNat == 0#64)) ∧ w = w' := by
  go_enter Try.func45, Try.ntmps45
  go_wp2_with (go_at_call 46; refine (ones_any _ _).mono ?_; rintro e w' ⟨rfl, rfl⟩)
  go_ret
  exact ⟨ret_b (U_eq _ 0#64), rfl⟩

/-- a field's two cells -/
def fieldCells (p : Int × BitVec 64) : List Value := [.int .i64 p.1, .int .u64 (U p.2)]

/-- are the widths allowed? -/
def wOk : List (Int × BitVec 64) → Int → Bool
  | [], _ => true
  | p :: r, left => !(decide (p.1 < 1)) && !(decide (left < p.1)) && wOk r (left - p.1)
def packGo : List (Int × BitVec 64) → BitVec 64 → Int → Option (BitVec 64)
  | [], w, _ => some w
  | p :: r, w, i => if (p.2 &&& ~~~ones p.1.toNat == 0#64) = true then packGo r (w ||| (p.2 <<< i.toNat)) (i + p.1) else none
def packE : Option (BitVec 64) → BitVec 64 × Int
  | some w => (w, 0)
  | none => (0#64, 2)
def pack (l : List (Int × BitVec 64)) : BitVec 64 × Int := if wOk l 64 = true then packE (packGo l 0#64 0) else (0#64, 1)

def retW (p : BitVec 64 × Int) : Ending := .returned (.tuple #[.int .u64 (U p.1), .int .i64 p.2])

theorem pack_any (A : Option Addr) (n c : Nat) (l : List (Int × BitVec 64)) (w : World) (h : Reads w w.heap.size 2 A n c (l.flatMap fieldCells)) :
    Calls Try.prog 29 #[.slice A n c] w fun e w' => e = retW (pack l) ∧ Below w.heap.size w w' := by
  have hlen := h.length (fun _ => rfl) (by omega)
  have hcap := h.cap
  have hle := h.le
  unfold maxLen at hcap
  go_enter Try.func29, Try.ntmps29
  go_wp2_with fail
  go_loopw [4, 13] (fun x i wr => ∃ (k : Nat) (left : Int), k ≤ n ∧ i = .int .i64 k ∧ x = .int .i64 left ∧ 0 ≤ left ∧ left ≤ 64 ∧ Below w.heap.size w wr ∧ wOk l 64 = wOk (l.drop k) left) (fun _ i _ => n - (intOf i).toNat)
  case atStart => exact ⟨0, 64, Nat.zero_le _, rfl, rfl, by omega, by omega, Below.refl _ _, rfl⟩
  case round =>
    obtain ⟨k, left, hk, rfl, rfl, hl0, hl1, hb, hspec⟩ := hrel
    by_cases hlt : k < n
    · obtain ⟨b, off, a, rfl, hbb, ha, hc⟩ := (h.below hb).elem (fun _ => rfl) (by omega) hlt
      have hsz := hb.size
      have c0 := hc 0 _ rfl
      have c1 := hc 1 _ rfl
      rw [Nat.add_zero] at c0
      rw [drop_at ha, wOk] at hspec
      have H := Lib.hid hspec
      have HA := Lib.hid ha
      have HL := Lib.hid hlen
      clear hspec ha hlen hc
      by_cases t0 : a.1 < 1
      · go_wp2
        go_ret2
        exact ⟨by unfold retW pack; rw [H.out]; simp [t0]; rfl, by go_grown⟩
      · by_cases t1 : left < a.1
        · go_wp2
          go_ret2
          exact ⟨by unfold retW pack; rw [H.out]; simp [t1]; rfl, by go_grown⟩
        · go_wp2
          go_roundw
          case rel => exact ⟨k + 1, left - a.1, by omega, by go_num, rfl, by omega, by omega, by go_grown, by rw [H.out]; simp [t0, t1]⟩
          case measure => simp [intOf]; omega
    · have hend := drop_end hlen hlt
      rw [hend, wOk] at hspec
      have HS := Lib.hid hspec
      have HL := Lib.hid hlen
      clear hspec hlen hend
      have hsz := hb.size
      go_wp2_with fail
      go_loopw [7, 8, 33] (fun x y i wq => ∃ (k : Nat) (v : BitVec 64) (at_ : Int), k ≤ n ∧ i = .int .i64 k ∧ x = .int .u64 (U v) ∧ y = .int .i64 at_ ∧ 0 ≤ at_ ∧ at_ ≤ 64 ∧ Below w.heap.size w wq ∧ wOk (l.drop k) (64 - at_) = true ∧ packGo l 0#64 0 = packGo (l.drop k) v at_) (fun _ _ i _ => n - (intOf i).toNat)
      case atStart => exact ⟨0, 0#64, 0, Nat.zero_le _, rfl, rfl, rfl, by omega, by omega, hb, HS.out, rfl⟩
      case round =>
        obtain ⟨k, v, i, hk, rfl, rfl, rfl, hi0, hi1, hb, hok, hspec⟩ := hrel
        by_cases hlt : k < n
        · obtain ⟨b, off, a, rfl, hbb, ha, hc⟩ := (h.below hb).elem (fun _ => rfl) (by omega) hlt
          have hsz := hb.size
          have c0 := hc 0 _ rfl
          have c1 := hc 1 _ rfl
          rw [Nat.add_zero] at c0
          rw [drop_at ha, wOk] at hok
          rw [drop_at ha, packGo] at hspec
          simp only [Bool.and_eq_true, Bool.not_eq_true', decide_eq_false_iff_not] at hok
          obtain ⟨⟨t0, t1⟩, hok⟩ := hok
          have hok' : wOk (l.drop (k + 1)) (64 - (i + a.1)) = true := by rw [show 64 - (i + a.1) = 64 - i - a.1 by omega]; exact hok
          have H := Lib.hid hspec
          have HO := Lib.hid hok'
          clear hspec ha hc hok hok'
          by_cases hf : (a.2 &&& ~~~ones a.1.toNat == 0#64) = true
          · have HF := Lib.hid hf
            go_wp2_with (go_at_call 45; refine (fits_any _ _ _).mono ?_; rintro e w' ⟨rfl, rfl⟩)
            go_roundw
            case rel => exact ⟨k + 1, _, i + a.1, by omega, by go_num, rfl, rfl, by omega, by omega, by go_grown, HO.out, by rw [H.out, if_pos HF.out]⟩
            case measure => simp [intOf]; omega
          · have HF := Lib.hid hf
            go_wp2_with (go_at_call 45; refine (fits_any _ _ _).mono ?_; rintro e w' ⟨rfl, rfl⟩)
            go_ret2
            exact ⟨by unfold retW pack; rw [if_pos HS.out, H.out, if_neg HF.out]; rfl, by go_grown⟩
        · have hend := drop_end HL.out hlt
          rw [hend, packGo] at hspec
          have H := Lib.hid hspec
          clear hspec hend hok
          go_wp2_with fail
          go_ret2
          exact ⟨by unfold retW pack; rw [if_pos HS.out, H.out]; rfl, by go_grown⟩
end Go.Proofs.Ytpmdgmgcbminaaa

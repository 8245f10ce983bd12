/- The contracts of arena's functions and of their references. -/
import Derived.Test.YtopdplehnknbiaaOpen
import Derived.Test.YtopdplehnknbiaaNum
import Derived.WalkSpells
import Derived.Laws.CopyOwn
import Derived.BigQuiet
import Derived.Deep.QuietTactic
namespace Go.Proofs.Ytopdplehnknbiaa
open Go.RowKit Words

theorem ret_b {x y : Bool} (h : x = y) : Ending.returned (.bool x) = .returned (.bool y) := by rw [h]
theorem tyWords : SlTy Try.prog 22 23 1 8 := SlTy.mk' (z := .int .u64 0) Try.underlying22 (by kernel_rfl) rfl (by omega)

/-- a clone: a row of the call's own -/
def RetOwn (w : World) (e : TypeId) (s n : Nat) (xs : List Value) (r : Ending) (w' : World) : Prop :=
  ∃ v, r = .returned v ∧ w'.ownsRow w.heap.size e s v n xs ∧ Below w.heap.size w w'

theorem clone_any (A : Option Addr) (n c : Nat) (xs : List Value) (w : World) (h : Reads w w.heap.size 1 A n c xs) (h1 : ∀ u ∈ xs, u.oneCell' = true) (hn : n ≤ 1000000) :
    Calls Try.prog 27 #[.slice A n c] w (RetOwn w 23 1 n xs) := by
  cases A with
  | none =>
    obtain rfl := h.none_ rfl
    have hle := h.le
    have hn0 : n = 0 := by omega
    subst hn0
    have hx : xs = [] := List.eq_nil_of_length_eq_zero (by simpa using h.len)
    subst hx
    have hnil := fun W => Lib.run_eql_slice_nil (P := Try.prog) W _ _ none 0 0 0 0 Try.underlying22
    go_enter Try.func27, Try.ntmps27
    go_wp2_with fail
    go_ret
    exact ⟨_, rfl, World.ownsRow_nil _ _ _ _, Below.refl _ _⟩
  | some ad =>
    have hnil := fun W => Lib.run_eql_slice_nil (P := Try.prog) W _ _ (some ad) n c 0 0 Try.underlying22
    have hown := World.ownsRow_lit (e := 23) (size := 1) (base := w.heap.size) w #[] 0 (Nat.le_refl _) (by decide) rfl
    go_enter Try.func27, Try.ntmps27
    go_wp2_with (at_builtin; refine wpList_app rfl _ _ _ rfl tyWords rfl hown rfl (h.alloc (Nat.le_refl _) _) h1 ?c1 ?c2 ?c3 ?_)
    case c1 => unfold maxLen; omega
    case c2 => omega
    intro v' w1 hown' hb'
    go_wp2
    go_ret
    exact ⟨_, rfl, hown', (keep_alloc (Below.refl _ _) _).trans hb'⟩

/-- the index of an address from which on k words exist -/
def placeW (n : Nat) (a k : Int) : Int × Bool := if a < 4096 ∨ (n : Int) < a - 4096 then (0, false) else (a - 4096, decide (k ≤ n - (a - 4096)))
def retIB (p : Int × Bool) : Ending := .returned (.tuple #[.int .i64 p.1, .bool p.2])

theorem place_any (A : Option Addr) (n c : Nat) (a : BitVec 64) (k : Int) (w : World) (hn : n ≤ 1000000) :
    Calls Try.prog 25 #[.slice A n c, .int .u64 (U a), .int .i64 k] w fun e w' => e = retIB (placeW n (U a) k) ∧ w = w' := by
  have h0 := U_nonneg a
  by_cases t1 : U a < 4096
  · have hp : placeW n (U a) k = (0, false) := by unfold placeW; rw [if_pos (Or.inl t1)]
    have HP := Lib.hid hp
    clear hp
    go_enter Try.func25, Try.ntmps25
    go_wp2
    go_ret2
    exact ⟨by rw [HP.out]; rfl, rfl⟩
  · by_cases t2 : (n : Int) < U a - 4096
    · have hp : placeW n (U a) k = (0, false) := by unfold placeW; rw [if_pos (Or.inr t2)]
      have HP := Lib.hid hp
      clear hp
      have x1 : IntKind.u64.wrap (U a - 4096) = U a - 4096 := IntWalk.u64_in _ (by have := U_range a; omega)
      go_enter Try.func25, Try.ntmps25
      go_wp2
      go_ret2
      exact ⟨by rw [HP.out]; rfl, rfl⟩
    · have hp : placeW n (U a) k = (U a - 4096, decide (k ≤ n - (U a - 4096))) := by unfold placeW; rw [if_neg (by omega)]
      have HP := Lib.hid hp
      clear hp
      go_enter Try.func25, Try.ntmps25
      go_wp2
      go_ret2
      exact ⟨by rw [HP.out]; rfl, rfl⟩
theorem span_any (A : Option Addr) (n c : Nat) (a : BitVec 64) (k : Int) (w : World) (hn : n ≤ 1000000) :
    Calls Try.prog 26 #[.slice A n c, .int .u64 (U a), .int .i64 k] w fun e w' => e = retIB (placeW n (U a) k) ∧ w = w' := by
  have h0 := U_nonneg a
  by_cases t1 : U a < 4096
  · have hp : placeW n (U a) k = (0, false) := by unfold placeW; rw [if_pos (Or.inl t1)]
    have HP := Lib.hid hp
    clear hp
    go_enter Try.func26, Try.ntmps26
    go_wp2
    go_ret2
    exact ⟨by rw [HP.out]; rfl, rfl⟩
  · by_cases t2 : 4096 + (n : Int) < U a
    · have hp : placeW n (U a) k = (0, false) := by unfold placeW; rw [if_pos (Or.inr (by omega))]
      have HP := Lib.hid hp
      clear hp
      go_enter Try.func26, Try.ntmps26
      go_wp2
      go_ret2
      exact ⟨by rw [HP.out]; rfl, rfl⟩
    · have hp : placeW n (U a) k = (U a - 4096, decide (k ≤ n - (U a - 4096))) := by unfold placeW; rw [if_neg (by omega)]
      have HP := Lib.hid hp
      clear hp
      go_enter Try.func26, Try.ntmps26
      go_wp2
      go_ret2
      exact ⟨by rw [HP.out]; rfl, rfl⟩

/-! ### Index, Load -/
def indexW (n : Nat) (a : Int) : Int × Int := if (placeW n a 1).2 = true then ((placeW n a 1).1, 0) else (0, 2)
def retII (p : Int × Int) : Ending := .returned (.tuple #[.int .i64 p.1, .int .i64 p.2])
def loadW (l : List (BitVec 64)) (a : Int) : BitVec 64 × Int := if (indexW l.length a).2 = 0 then (l.getD (indexW l.length a).1.toNat 0#64, 0) else (0#64, (indexW l.length a).2)
def retW (p : BitVec 64 × Int) : Ending := .returned (.tuple #[.int .u64 (U p.1), .int .i64 p.2])
theorem indexW_cases (n : Nat) (a : Int) : (∃ i : Nat, i < n ∧ a = 4096 + i ∧ placeW n a 1 = ((i : Int), true) ∧ indexW n a = ((i : Int), 0)) ∨ ((∃ j, placeW n a 1 = (j, false)) ∧ indexW n a = (0, 2)) := by
  by_cases h : (placeW n a 1).2 = true
  · left
    have hx : indexW n a = ((placeW n a 1).1, 0) := by unfold indexW; rw [if_pos h]
    unfold placeW at h
    split at h
    · cases h
    · rename_i hc
      simp only [decide_eq_true_eq] at h
      have hp : placeW n a 1 = (a - 4096, true) := by unfold placeW; rw [if_neg hc, decide_eq_true h]
      refine ⟨(a - 4096).toNat, by omega, by omega, ?_, ?_⟩
      · rw [hp, show ((a - 4096).toNat : Int) = a - 4096 by omega]
      · rw [hx, hp, show ((a - 4096).toNat : Int) = a - 4096 by omega]
  · right
    have hx : indexW n a = (0, 2) := by unfold indexW; rw [if_neg h]
    refine ⟨⟨(placeW n a 1).1, ?_⟩, hx⟩
    simp only [Bool.not_eq_true] at h
    exact Prod.ext rfl h

theorem index_any (A : Option Addr) (n c : Nat) (a : BitVec 64) (w : World) (hn : n ≤ 1000000) :
    Calls Try.prog 11 #[.slice A n c, .int .u64 (U a)] w fun e w' => e = retII (indexW n (U a)) ∧ w = w' := by
  rcases indexW_cases n (U a) with ⟨i, hi, -, hp, hx⟩ | ⟨⟨j, hp⟩, hx⟩
  · have HP := Lib.hid hp
    have HX := Lib.hid hx
    clear hp hx
    go_enter Try.func11, Try.ntmps11
    go_wp2_with fail
    refine (place_any A n c a 1 _ hn).mono ?_
    rw [HP.out]
    rintro e w' ⟨rfl, rfl⟩
    unfold retIB
    go_wp2_with fail
    go_ret2
    exact ⟨by rw [HX.out]; rfl, rfl⟩
  · have HP := Lib.hid hp
    have HX := Lib.hid hx
    clear hp hx
    go_enter Try.func11, Try.ntmps11
    go_wp2_with fail
    refine (place_any A n c a 1 _ hn).mono ?_
    rw [HP.out]
    rintro e w' ⟨rfl, rfl⟩
    unfold retIB
    go_wp2_with fail
    go_ret2
    exact ⟨by rw [HX.out]; rfl, rfl⟩
theorem rindex_any (A : Option Addr) (n c : Nat) (a : BitVec 64) (w : World) (hn : n ≤ 1000000) :
    Calls Try.prog 12 #[.slice A n c, .int .u64 (U a)] w fun e w' => e = retII (indexW n (U a)) ∧ w = w' := by
  rcases indexW_cases n (U a) with ⟨i, hi, -, hp, hx⟩ | ⟨⟨j, hp⟩, hx⟩
  · have HP := Lib.hid hp
    have HX := Lib.hid hx
    clear hp hx
    go_enter Try.func12, Try.ntmps12
    go_wp2_with fail
    refine (span_any A n c a 1 _ hn).mono ?_
    rw [HP.out]
    rintro e w' ⟨rfl, rfl⟩
    unfold retIB
    go_wp2_with fail
    go_ret2
    exact ⟨by rw [HX.out]; rfl, rfl⟩
  · have HP := Lib.hid hp
    have HX := Lib.hid hx
    clear hp hx
    go_enter Try.func12, Try.ntmps12
    go_wp2_with fail
    refine (span_any A n c a 1 _ hn).mono ?_
    rw [HP.out]
    rintro e w' ⟨rfl, rfl⟩
    unfold retIB
    go_wp2_with fail
    go_ret2
    exact ⟨by rw [HX.out]; rfl, rfl⟩
theorem load_any (A : Option Addr) (n c : Nat) (l : List (BitVec 64)) (a : BitVec 64) (w : World) (h : Reads w w.heap.size 1 A n c (l.flatMap wordCells)) (hn : n ≤ 1000000) :
    Calls Try.prog 15 #[.slice A n c, .int .u64 (U a)] w fun e w' => e = retW (loadW l (U a)) ∧ w = w' := by
  have hlen := h.length (fun _ => rfl) (by omega)
  have hcap := h.cap
  have hle := h.le
  unfold maxLen at hcap
  rcases indexW_cases n (U a) with ⟨i, hi, -, -, hx⟩ | ⟨-, hx⟩
  · obtain ⟨b, off, x, rfl, hbb, ha, hc⟩ := h.elem (fun _ => rfl) (by omega) hi
    have c0 := hc 0 _ rfl
    rw [Nat.mul_one, Nat.add_zero] at c0
    have hl : loadW l (U a) = (x, 0) := by
      unfold loadW
      rw [hlen, hx, if_pos rfl]
      simp only [Int.toNat_natCast]
      rw [List.getD_eq_getElem?_getD, ha]
      rfl
    have HX := Lib.hid hx
    have HL := Lib.hid hl
    clear hx hl hlen hc ha
    go_enter Try.func15, Try.ntmps15
    go_wp2_with fail
    refine (index_any _ n c a _ hn).mono ?_
    rw [HX.out]
    rintro e w' ⟨rfl, rfl⟩
    unfold retII
    go_wp2_with fail
    go_ret2
    exact ⟨by rw [HL.out]; rfl, rfl⟩
  · have hl : loadW l (U a) = (0#64, 2) := by
      unfold loadW
      rw [hlen, hx, if_neg (by decide)]
    have HX := Lib.hid hx
    have HL := Lib.hid hl
    clear hx hl hlen
    go_enter Try.func15, Try.ntmps15
    go_wp2_with fail
    refine (index_any _ n c a _ hn).mono ?_
    rw [HX.out]
    rintro e w' ⟨rfl, rfl⟩
    unfold retII
    go_wp2_with fail
    go_ret2
    exact ⟨by rw [HL.out]; rfl, rfl⟩
theorem rload_any (A : Option Addr) (n c : Nat) (l : List (BitVec 64)) (a : BitVec 64) (w : World) (h : Reads w w.heap.size 1 A n c (l.flatMap wordCells)) (hn : n ≤ 1000000) :
    Calls Try.prog 16 #[.slice A n c, .int .u64 (U a)] w fun e w' => e = retW (loadW l (U a)) ∧ w = w' := by
  have hlen := h.length (fun _ => rfl) (by omega)
  have hcap := h.cap
  have hle := h.le
  unfold maxLen at hcap
  rcases indexW_cases n (U a) with ⟨i, hi, -, -, hx⟩ | ⟨-, hx⟩
  · obtain ⟨b, off, x, rfl, hbb, ha, hc⟩ := h.elem (fun _ => rfl) (by omega) hi
    have c0 := hc 0 _ rfl
    rw [Nat.mul_one, Nat.add_zero] at c0
    have hl : loadW l (U a) = (x, 0) := by
      unfold loadW
      rw [hlen, hx, if_pos rfl]
      simp only [Int.toNat_natCast]
      rw [List.getD_eq_getElem?_getD, ha]
      rfl
    have HX := Lib.hid hx
    have HL := Lib.hid hl
    clear hx hl hlen hc ha
    go_enter Try.func16, Try.ntmps16
    go_wp2_with fail
    refine (rindex_any _ n c a _ hn).mono ?_
    rw [HX.out]
    rintro e w' ⟨rfl, rfl⟩
    unfold retII
    go_wp2_with fail
    go_ret2
    exact ⟨by rw [HL.out]; rfl, rfl⟩
  · have hl : loadW l (U a) = (0#64, 2) := by
      unfold loadW
      rw [hlen, hx, if_neg (by decide)]
    have HX := Lib.hid hx
    have HL := Lib.hid hl
    clear hx hl hlen
    go_enter Try.func16, Try.ntmps16
    go_wp2_with fail
    refine (rindex_any _ n c a _ hn).mono ?_
    rw [HX.out]
    rintro e w' ⟨rfl, rfl⟩
    unfold retII
    go_wp2_with fail
    go_ret2
    exact ⟨by rw [HL.out]; rfl, rfl⟩
end Go.Proofs.Ytopdplehnknbiaa

/- The contracts of arena's Read, Write, Store and New, and of their references. -/
import Derived.Test.YtopdplehnknbiaaArena
import Derived.Deep.OwnRows
namespace Go.Proofs.Ytopdplehnknbiaa
open Go.RowKit Words

theorem add_at (b off i : Nat) : (⟨b, off, none⟩ : Addr).add i = ⟨b, off + i, none⟩ := by unfold Addr.add; split <;> simp_all
theorem Reads.cut {w : World} {B n c : Nat} {A : Option Addr} {xs : List Value} (h : Reads w B 1 A n c xs) {i k : Nat} (hik : i + k ≤ n) :
    Reads w B 1 (if c = i then A else Option.map (fun x => x.add i) A) k (c - i) ((xs.drop i).take k) := by
  have hl := h.len
  refine ⟨by rw [List.length_take, List.length_drop]; omega, by have := h.le; omega, by have := h.cap; omega, fun hn => ?_, fun hk => ?_⟩
  · cases A with
    | none => have := h.none_ rfl; omega
    | some a => split at hn <;> cases hn
  · obtain ⟨b, off, rfl, hb, hc⟩ := h.at_ (by omega)
    have hne : ¬ c = i := by have := h.le; omega
    rw [if_neg hne]
    refine ⟨b, off + i, by simp [add_at], hb, fun j u hu => ?_⟩
    have hj : j < k := by
      have := (List.getElem?_eq_some_iff.1 hu).1
      rw [List.length_take] at this; omega
    rw [List.getElem?_take, if_pos hj, List.getElem?_drop] at hu
    rw [Nat.add_assoc]
    exact hc _ u hu

/-- a list of words and an error code come back -/
def RetWs (w : World) (r : List (BitVec 64) × Int) (e : Ending) (w' : World) : Prop :=
  ∃ A c, e = .returned (.tuple #[.slice A r.1.length c, .int .i64 r.2]) ∧ Reads w' w'.heap.size 1 A r.1.length c (r.1.flatMap wordCells) ∧ Below w.heap.size w w'

theorem placeW_cases (n : Nat) (a k : Int) (_hk : 0 ≤ k) : (∃ i : Nat, i + k.toNat ≤ n ∧ a = 4096 + i ∧ placeW n a k = ((i : Int), true)) ∨ (∃ j, placeW n a k = (j, false)) := by
  unfold placeW
  split
  · exact Or.inr ⟨_, rfl⟩
  · by_cases h : k ≤ n - (a - 4096)
    · left
      refine ⟨(a - 4096).toNat, by omega, by omega, ?_⟩
      rw [decide_eq_true h, show ((a - 4096).toNat : Int) = a - 4096 by omega]
    · right
      rw [decide_eq_false h]
      exact ⟨_, rfl⟩
theorem cells_cut (l : List (BitVec 64)) (i k : Nat) : ((l.flatMap wordCells).drop i).take k = ((l.drop i).take k).flatMap wordCells := by
  have h : ∀ l : List (BitVec 64), l.flatMap wordCells = l.map fun x => Value.int .u64 (U x) := by
    intro l
    induction l with
    | nil => rfl
    | cons a r ih => rw [List.flatMap_cons, ih]; rfl
  rw [h, h, ← List.map_drop, ← List.map_take]
theorem cells_one (l : List (BitVec 64)) : ∀ u ∈ l.flatMap wordCells, u.oneCell' = true := by
  intro u hu
  rw [List.mem_flatMap] at hu
  obtain ⟨x, _, hx⟩ := hu
  simp only [wordCells, List.mem_singleton] at hx
  subst hx
  rfl

def readW (l : List (BitVec 64)) (a k : Int) : List (BitVec 64) × Int :=
  if k < 0 then ([], 1) else if (placeW l.length a k).2 = true then ((l.drop (placeW l.length a k).1.toNat).take k.toNat, 0) else ([], 2)

theorem read_any (A : Option Addr) (n c : Nat) (l : List (BitVec 64)) (a : BitVec 64) (k : Int) (w : World) (h : Reads w w.heap.size 1 A n c (l.flatMap wordCells)) (hn : n ≤ 1000000) :
    Calls Try.prog 21 #[.slice A n c, .int .u64 (U a), .int .i64 k] w (RetWs w (readW l (U a) k)) := by
  have hlen := h.length (fun _ => rfl) (by omega)
  have hcap := h.cap
  have hle := h.le
  unfold maxLen at hcap
  by_cases hk : k < 0
  · have hr : readW l (U a) k = ([], 1) := by unfold readW; rw [if_pos hk]
    rw [hr]
    go_enter Try.func21, Try.ntmps21
    go_wp2_with fail
    go_ret2
    exact ⟨none, 0, rfl, Reads.nil, Below.refl _ _⟩
  · rcases placeW_cases n (U a) k (by omega) with ⟨i, hik, -, hp⟩ | ⟨j, hp⟩
    · have hr : readW l (U a) k = ((l.drop i).take k.toNat, 0) := by unfold readW; rw [if_neg hk, hlen, hp]; rfl
      have hcut := h.cut (i := i) (k := k.toNat) hik
      rw [cells_cut] at hcut
      have hl2 : ((l.drop i).take k.toNat).length = k.toNat := by rw [List.length_take, List.length_drop]; omega
      rw [hr]
      have HL := Lib.hid hl2
      have HP := Lib.hid hp
      have HC := Lib.hid hcut
      have HN := Lib.hid hn
      clear hr hl2 hp hcut hlen hn
      obtain ⟨k, rfl⟩ := Int.eq_ofNat_of_zero_le (Int.not_lt.1 hk)
      simp only [Int.toNat_natCast] at *
      go_enter Try.func21, Try.ntmps21
      repeat (first
        | (go_at_call 25; refine (place_any A n c a k _ HN.out).mono ?_; rw [HP.out]; rintro e w' ⟨rfl, rfl⟩; unfold retIB; dsimp only)
        | (go_at_call 27; refine (clone_any _ _ _ _ _ HC.out (cells_one _) (by have := HN.out; omega)).mono ?_; rintro e w' ⟨v, rfl, hown, hb⟩; dsimp only)
        | go_values | go_skip | go_guarded | go_step | go_upon)
      go_ret2
      obtain ⟨A', c', rfl, hr'⟩ := Reads.own hown
      exact ⟨A', c', by rw [HL.out]; rfl, by rw [HL.out]; exact hr', hb⟩
    · have hr : readW l (U a) k = ([], 2) := by unfold readW; rw [if_neg hk, hlen, hp]; rfl
      rw [hr]
      have HP := Lib.hid hp
      have HN := Lib.hid hn
      clear hr hp hlen hn
      go_enter Try.func21, Try.ntmps21
      go_wp2_with (go_at_call 25; refine (place_any A n c a k _ HN.out).mono ?_; rw [HP.out]; rintro e w' ⟨rfl, rfl⟩; unfold retIB; dsimp only)
      go_ret2
      exact ⟨none, 0, rfl, Reads.nil, Below.refl _ _⟩

theorem rread_any (A : Option Addr) (n c : Nat) (l : List (BitVec 64)) (a : BitVec 64) (k : Int) (w : World) (h : Reads w w.heap.size 1 A n c (l.flatMap wordCells)) (hn : n ≤ 1000000) :
    Calls Try.prog 22 #[.slice A n c, .int .u64 (U a), .int .i64 k] w (RetWs w (readW l (U a) k)) := by
  have hlen := h.length (fun _ => rfl) (by omega)
  have hcap := h.cap
  have hle := h.le
  unfold maxLen at hcap
  by_cases hk : k < 0
  · have hr : readW l (U a) k = ([], 1) := by unfold readW; rw [if_pos hk]
    rw [hr]
    go_enter Try.func22, Try.ntmps22
    go_wp2_with fail
    go_ret2
    exact ⟨none, 0, rfl, Reads.nil, Below.refl _ _⟩
  · rcases placeW_cases n (U a) k (by omega) with ⟨i, hik, -, hp⟩ | ⟨j, hp⟩
    · have hr : readW l (U a) k = ((l.drop i).take k.toNat, 0) := by unfold readW; rw [if_neg hk, hlen, hp]; rfl
      have hcut := h.cut (i := i) (k := k.toNat) hik
      rw [cells_cut] at hcut
      have hl2 : ((l.drop i).take k.toNat).length = k.toNat := by rw [List.length_take, List.length_drop]; omega
      rw [hr]
      have HL := Lib.hid hl2
      have HP := Lib.hid hp
      have HC := Lib.hid hcut
      have HN := Lib.hid hn
      clear hr hl2 hp hcut hlen hn
      obtain ⟨k, rfl⟩ := Int.eq_ofNat_of_zero_le (Int.not_lt.1 hk)
      simp only [Int.toNat_natCast] at *
      have hcut2 : Reads w w.heap.size 1 (if c = i then A else Option.map (fun x => x.add i) A) (i + k - i) (c - i) (((l.drop i).take k).flatMap wordCells) := by
        rw [Nat.add_sub_cancel_left]; exact HC.out
      have HC2 := Lib.hid hcut2
      clear hcut2
      have hown := World.ownsRow_lit (e := 23) (size := 1) (base := w.heap.size) w #[] 0 (Nat.le_refl _) (by decide) rfl
      go_enter Try.func22, Try.ntmps22
      repeat (first
        | (go_at_call 26; refine (span_any A n c a k _ HN.out).mono ?_; rw [HP.out]; rintro e w' ⟨rfl, rfl⟩; unfold retIB; dsimp only)
        | (at_builtin; refine wpList_app rfl _ _ _ rfl tyWords rfl hown rfl (HC2.out.alloc (Nat.le_refl _) _) (cells_one _) (by have := HN.out; unfold maxLen; omega) (by have := HN.out; omega) (by simp) ?_; intro v' w1 hown' hb')
        | go_values | go_skip | go_guarded | go_step | go_upon)
      go_ret2
      rw [Nat.add_sub_cancel_left, Nat.zero_add] at hown'
      obtain ⟨A', c', rfl, hr'⟩ := Reads.own hown'
      exact ⟨A', c', by rw [HL.out]; rfl, by rw [HL.out]; exact hr', (keep_alloc (Below.refl _ _) _).trans hb'⟩
    · have hr : readW l (U a) k = ([], 2) := by unfold readW; rw [if_neg hk, hlen, hp]; rfl
      rw [hr]
      have HP := Lib.hid hp
      have HN := Lib.hid hn
      clear hr hp hlen hn
      go_enter Try.func22, Try.ntmps22
      go_wp2_with (go_at_call 26; refine (span_any A n c a k _ HN.out).mono ?_; rw [HP.out]; rintro e w' ⟨rfl, rfl⟩; unfold retIB; dsimp only)
      go_ret2
      exact ⟨none, 0, rfl, Reads.nil, Below.refl _ _⟩

/-! ### New -/
def newW (n : Int) : List (BitVec 64) × Int := if n < 0 ∨ 4096 < n then ([], 1) else (List.replicate n.toNat 0#64, 0)
theorem made_words (w : World) (n : Nat) (hn : n ≤ 4096) : Reads (w.alloc (.cells (madeCells #[.int .u64 0] n) 23)) (w.alloc (.cells (madeCells #[.int .u64 0] n) 23)).heap.size 1 (some ⟨w.heap.size, 0, none⟩) n n ((List.replicate n 0#64).flatMap wordCells) := by
  refine Reads.freshAs w _ _ 1 n _ ?_ (by simp [madeCells]) (by unfold maxLen; omega)
  have e : (List.replicate n 0#64).flatMap wordCells = List.replicate n (Value.int .u64 0) := by
    induction n with
    | zero => rfl
    | succ n ih => rw [List.replicate_succ, List.flatMap_cons, ih (by omega), List.replicate_succ]; rfl
  rw [e]
  apply List.ext_getElem?
  intro i
  by_cases hi : i < n
  · simp [madeCells, hi, Nat.mod_one]
  · simp [madeCells, hi]

theorem new_any (n : Int) (w : World) (h0 : -9223372036854775808 ≤ n) (h1 : n ≤ 9223372036854775807) :
    Calls Try.prog 9 #[.int .i64 n] w (RetWs w (newW n)) := by
  by_cases hb : n < 0 ∨ 4096 < n
  · have hr : newW n = ([], 1) := by unfold newW; rw [if_pos hb]
    rw [hr]
    clear hr h0 h1
    rcases hb with hb | hb
    · go_enter Try.func9, Try.ntmps9
      go_wp2_with fail
      go_ret2
      exact ⟨none, 0, rfl, Reads.nil, Below.refl _ _⟩
    · go_enter Try.func9, Try.ntmps9
      go_wp2_with fail
      all_goals
        go_ret2
        exact ⟨none, 0, rfl, Reads.nil, Below.refl _ _⟩
  · have hr : newW n = (List.replicate n.toNat 0#64, 0) := by unfold newW; rw [if_neg hb]
    obtain ⟨n, rfl⟩ := Int.eq_ofNat_of_zero_le (by omega : 0 ≤ n)
    rw [hr]
    have hn : n ≤ 4096 := by omega
    have hi : (n : Int) ≤ 4096 := by omega
    have hmk := fun W => run_make_row' (P := Try.prog) 22 23 (.int .u64 0) 8 Try.underlying22 (by kernel_rfl) rfl .i64 .i64 n (by omega) (by omega) W
    clear hr h0 h1 hb
    go_enter Try.func9, Try.ntmps9
    go_wp2_with fail
    go_ret2
    refine ⟨_, _, by simp [List.length_replicate]; exact ⟨rfl, rfl⟩, ?_, keep_alloc (Below.refl _ _) _⟩
    simp only [Int.toNat_natCast, List.length_replicate]
    exact made_words w n hn
theorem rnew_any (n : Int) (w : World) (h0 : -9223372036854775808 ≤ n) (h1 : n ≤ 9223372036854775807) :
    Calls Try.prog 10 #[.int .i64 n] w (RetWs w (newW n)) := by
  by_cases hb : n < 0 ∨ 4096 < n
  · have hr : newW n = ([], 1) := by unfold newW; rw [if_pos hb]
    rw [hr]
    clear hr h0 h1
    rcases hb with hb | hb
    · go_enter Try.func10, Try.ntmps10
      go_wp2_with fail
      go_ret2
      exact ⟨none, 0, rfl, Reads.nil, Below.refl _ _⟩
    · go_enter Try.func10, Try.ntmps10
      go_wp2_with fail
      all_goals
        go_ret2
        exact ⟨none, 0, rfl, Reads.nil, Below.refl _ _⟩
  · have hr : newW n = (List.replicate n.toNat 0#64, 0) := by unfold newW; rw [if_neg hb]
    obtain ⟨n, rfl⟩ := Int.eq_ofNat_of_zero_le (by omega : 0 ≤ n)
    rw [hr]
    have hn : n ≤ 4096 := by omega
    have hi : (n : Int) ≤ 4096 := by omega
    have hmk := fun W => run_make_row' (P := Try.prog) 22 23 (.int .u64 0) 8 Try.underlying22 (by kernel_rfl) rfl .i64 .i64 n (by omega) (by omega) W
    clear hr h0 h1 hb
    go_enter Try.func10, Try.ntmps10
    go_wp2_with fail
    go_ret2
    refine ⟨_, _, by simp [List.length_replicate]; exact ⟨rfl, rfl⟩, ?_, keep_alloc (Below.refl _ _) _⟩
    simp only [Int.toNat_natCast, List.length_replicate]
    exact made_words w n hn
end Go.Proofs.Ytopdplehnknbiaa

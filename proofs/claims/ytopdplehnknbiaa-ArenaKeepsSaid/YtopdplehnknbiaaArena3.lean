/- The contracts of arena's Write, Store, Move, and of their references. -/
import Derived.Test.YtopdplehnknbiaaArena2
import Derived.Deep.RegionLaw
namespace Go.Proofs.Ytopdplehnknbiaa
open Go.RowKit Words

/-- xs laid over l from place i on -/
def wr {α : Type} (l : List α) (i : Nat) (xs : List α) : List α := l.take i ++ (xs ++ l.drop (i + xs.length))
theorem wr_len {α : Type} (l : List α) (i : Nat) (xs : List α) (h : i + xs.length ≤ l.length) : (wr l i xs).length = l.length := by
  unfold wr; simp; omega
theorem words_map (l : List (BitVec 64)) : l.flatMap wordCells = l.map fun x => Value.int .u64 (U x) := by
  induction l with
  | nil => rfl
  | cons a r ih => rw [List.flatMap_cons, ih]; rfl
theorem wr_cells (l : List (BitVec 64)) (i : Nat) (xs : List (BitVec 64)) : wr (l.flatMap wordCells) i (xs.flatMap wordCells) = (wr l i xs).flatMap wordCells := by
  simp only [words_map, wr, List.length_map, List.map_append, List.map_take, List.map_drop]
theorem splice_take (cur : List Value) (n i : Nat) (xs : List Value) (h : i + xs.length ≤ n) (hn : n ≤ cur.length) : (splice cur i xs).take n = wr (cur.take n) i xs := by
  unfold splice wr
  rw [List.take_take, Nat.min_eq_left (by omega), List.drop_take]
  rw [List.take_append, List.take_append, List.length_take, Nat.min_eq_left (by omega)]
  rw [List.take_of_length_le (l := cur.take i) (by rw [List.length_take]; omega), List.take_of_length_le (l := xs) (by omega)]
  congr 2
  congr 1
  omega
/-- element by element -/
def setAll {α : Type} : List α → Nat → List α → List α
  | l, _, [] => l
  | l, i, x :: r => setAll (l.set i x) (i + 1) r
theorem wr_get {α : Type} (l : List α) (i : Nat) (xs : List α) (h : i + xs.length ≤ l.length) (j : Nat) : (wr l i xs)[j]? = if j < i then l[j]? else if j < i + xs.length then xs[j - i]? else l[j]? := by
  unfold wr
  by_cases h1 : j < i
  · rw [if_pos h1, List.getElem?_append_left (by rw [List.length_take]; omega), List.getElem?_take, if_pos h1]
  · rw [if_neg h1, List.getElem?_append_right (by rw [List.length_take]; omega), List.length_take, Nat.min_eq_left (by omega)]
    by_cases h2 : j < i + xs.length
    · rw [if_pos h2, List.getElem?_append_left (by omega)]
    · rw [if_neg h2, List.getElem?_append_right (by omega), List.getElem?_drop]
      congr 1
      omega
theorem setAll_wr {α : Type} (xs : List α) (l : List α) (i : Nat) (h : i + xs.length ≤ l.length) : setAll l i xs = wr l i xs := by
  induction xs generalizing l i with
  | nil => simp [setAll, wr]
  | cons x r ih =>
    simp only [List.length_cons] at h
    rw [setAll, ih _ _ (by rw [List.length_set]; omega)]
    apply List.ext_getElem?
    intro j
    rw [wr_get _ _ _ (by rw [List.length_set]; omega), wr_get _ _ _ (by simp only [List.length_cons]; omega)]
    simp only [List.length_cons]
    by_cases h1 : j < i
    · rw [if_pos (by omega), if_pos h1, List.getElem?_set_ne (by omega)]
    · rw [if_neg h1]
      by_cases h2 : j = i
      · subst h2
        rw [if_pos (by omega), if_pos (by omega), List.getElem?_set_self (by omega)]
        simp
      · rw [if_neg (by omega)]
        by_cases h3 : j < i + 1 + r.length
        · rw [if_pos h3, if_pos (by omega), show j - i = (j - (i + 1)) + 1 by omega, List.getElem?_cons_succ]
        · rw [if_neg h3, if_neg (by omega), List.getElem?_set_ne (by omega)]
theorem set_cells (l : List (BitVec 64)) (i : Nat) (x : BitVec 64) : (l.flatMap wordCells).set i (.int .u64 (U x)) = (l.set i x).flatMap wordCells := by
  simp only [words_map, List.map_set]

def writeW (l : List (BitVec 64)) (a : Int) (xs : List (BitVec 64)) : List (BitVec 64) × Int :=
  if (placeW l.length a xs.length).2 = true then (wr l (placeW l.length a xs.length).1.toNat xs, 0) else ([], 2)

theorem write_any (A A2 : Option Addr) (n c m c2 : Nat) (l xs : List (BitVec 64)) (a : BitVec 64) (w : World) (h : Reads w w.heap.size 1 A n c (l.flatMap wordCells)) (h2 : Reads w w.heap.size 1 A2 m c2 (xs.flatMap wordCells)) (hn : n ≤ 1000000) :
    Calls Try.prog 20 #[.slice A n c, .int .u64 (U a), .slice A2 m c2] w (RetWs w (writeW l (U a) xs)) := by
  have hlen := h.length (fun _ => rfl) (by omega)
  have hlen2 := h2.length (fun _ => rfl) (by omega)
  have hcap := h.cap
  have hle := h.le
  have hcap2 := h2.cap
  have hle2 := h2.le
  unfold maxLen at hcap hcap2
  rcases placeW_cases n (U a) m (by omega) with ⟨i, hik, -, hp⟩ | ⟨j, hp⟩
  · simp only [Int.toNat_natCast] at hik
    have hr : writeW l (U a) xs = (wr l i xs, 0) := by unfold writeW; rw [hlen, hlen2, hp]; rfl
    have hwl : (wr l i xs).length = n := by rw [wr_len _ _ _ (by omega), hlen]
    rw [hr]
    have HL := Lib.hid hlen
    have HL2 := Lib.hid hlen2
    have HW := Lib.hid hwl
    have HP := Lib.hid hp
    have HN := Lib.hid hn
    clear hr hp hlen hlen2 hwl hn
    by_cases hm : m = 0
    · have hx : xs = [] := List.eq_nil_of_length_eq_zero (by rw [HL2.out]; exact hm)
      subst hm hx
      have HP : Hid (placeW n (U a) 0 = ((i : Int), true)) := HP
      go_enter Try.func20, Try.ntmps20
      repeat (first
        | (go_at_call 25; refine (place_any A n c a _ _ HN.out).mono ?_; rw [HP.out]; rintro e w' ⟨rfl, rfl⟩; unfold retIB; dsimp only)
        | (go_at_call 27; refine (clone_any _ _ _ _ _ h (cells_one _) HN.out).mono ?_; rintro e w' ⟨v, rfl, hown, hb⟩; obtain ⟨A', c', rfl, hr'⟩ := Reads.own hown; have hle' := hr'.le; dsimp only)
        | (refine wpList_copy_nothing rfl (.tmp 25) (.tmp 26) _ _ rfl 23 Try.underlying22 (by kernel_rfl) _ _ _ _ _ _ rfl rfl (by simp) ?_)
        | go_values | go_skip | go_guarded | go_step | go_upon)
      go_ret2
      have e1 : wr l i [] = l := by simp [wr]
      rw [e1]
      exact ⟨A', c', by rw [HL.out]; rfl, by rw [HL.out]; exact hr', hb⟩
    · obtain ⟨ad, hA2⟩ : ∃ ad, A2 = some ad := by
        obtain ⟨b, off, e, -, -⟩ := h2.at_ (by omega)
        exact ⟨_, e⟩
      subst hA2
      have hsrc : ∀ j v, (xs.flatMap wordCells)[j]? = some v → w.cell? (ad.add j) = some v := by
        obtain ⟨b, off, e, -, hc⟩ := h2.at_ (by omega)
        injection e with e
        subst e
        intro j v hj
        have := hc j v hj
        have hadd2 : (⟨b, off, none⟩ : Addr).add j = ⟨b, off + j, none⟩ := by unfold Addr.add; split <;> simp_all
        rw [hadd2]
        exact this
      have hxl : (xs.flatMap wordCells).length = m := by rw [words_map, List.length_map, HL2.out]
      have HX := Lib.hid hxl
      clear hxl
      have HS := Lib.hid hsrc
      clear hsrc
      have hmin : Nat.min m (n - i) = m := Nat.min_eq_left (by omega)
      have HM := Lib.hid hmin
      clear hmin
      go_enter Try.func20, Try.ntmps20
      repeat (first
        | (go_at_call 25; refine (place_any A n c a _ _ HN.out).mono ?_; rw [HP.out]; rintro e w' ⟨rfl, rfl⟩; unfold retIB; dsimp only)
        | (go_at_call 27; refine (clone_any _ _ _ _ _ h (cells_one _) HN.out).mono ?_; rintro e w' ⟨v, rfl, hown, hb⟩; rcases hown.2 with ⟨-, hz⟩ | ⟨g, cap, cur, rfl, hbg, hg, hncap, hcm, hsz, htk⟩; (exfalso; omega); (have HT := Lib.hid htk); (have HSZ := Lib.hid hsz); clear htk hsz; dsimp only)
        | (refine wpList_copy_splice rfl (.tmp 25) (.tmp 26) _ _ rfl 23 Try.underlying22 (by kernel_rfl) _ _ _ _ _ _ rfl rfl g i cur.toList 23 (by rw [Array.toArray_toList]; exact hg) (xs.flatMap wordCells) (by rw [HX.out, HM.out]) (fun _ => ⟨by simp, ad, rfl, fun j v hj => keep_cell hb (HS.out j v hj)⟩) (by rw [HX.out, Array.length_toList, HSZ.out]; omega) (cells_one _) w.heap.size w hb hbg ?_; intro w4 hg4 hb4)
        | go_values | go_skip | go_guarded | go_step | go_upon)
      go_ret2
      have hlw : ((wr l i xs).flatMap wordCells).length = n := by rw [words_map, List.length_map, HW.out]
      have hcl : cur.toList.length = cap := by rw [Array.length_toList, HSZ.out, Nat.mul_one]
      have hxs := HX.out
      have hfin : w4.ownsRow w.heap.size 23 1 (.slice (some ⟨g, 0, none⟩) n cap) n ((wr l i xs).flatMap wordCells) := by
        refine ⟨by rw [hlw, Nat.mul_one], Or.inr ⟨g, cap, _, rfl, hbg, hg4.out, hncap, hcm, ?_, ?_⟩⟩
        · rw [List.size_toArray, length_splice _ _ _ (by omega), hcl, Nat.mul_one]
        · have ht := HT.out
          rw [Nat.mul_one] at ht ⊢
          rw [List.toList_toArray, splice_take _ n i _ (by omega) (by omega), ht, wr_cells]
      obtain ⟨A', c', e, hr'⟩ := Reads.own hfin
      injection e with e1 e2 e3
      subst e1 e3
      exact ⟨_, _, by rw [HW.out]; rfl, by rw [HW.out]; exact hr', hb4⟩
  · have hr : writeW l (U a) xs = ([], 2) := by unfold writeW; rw [hlen, hlen2, hp]; rfl
    rw [hr]
    have HP := Lib.hid hp
    have HN := Lib.hid hn
    clear hr hp hlen hlen2 hn
    go_enter Try.func20, Try.ntmps20
    go_wp2_with (go_at_call 25; refine (place_any A n c a _ _ HN.out).mono ?_; rw [HP.out]; rintro e w' ⟨rfl, rfl⟩; unfold retIB; dsimp only)
    go_ret2
    exact ⟨none, 0, rfl, Reads.nil, Below.refl _ _⟩
end Go.Proofs.Ytopdplehnknbiaa

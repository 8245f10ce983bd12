/- The contracts of arena's Store and Move, and of the references of Write, Store and Move. -/
import Derived.Test.YtopdplehnknbiaaArena3
namespace Go.Proofs.Ytopdplehnknbiaa
open Go.RowKit Words

theorem rwrite_any (A A2 : Option Addr) (n c m c2 : Nat) (l xs : List (BitVec 64)) (a : BitVec 64) (w : World) (h : Reads w w.heap.size 1 A n c (l.flatMap wordCells)) (h2 : Reads w w.heap.size 1 A2 m c2 (xs.flatMap wordCells)) (hn : n ≤ 1000000) :
    Calls Try.prog 23 #[.slice A n c, .int .u64 (U a), .slice A2 m c2] w (RetWs w (writeW l (U a) xs)) := by
  have hlen := h.length (fun _ => rfl) (by omega)
  have hlen2 := h2.length (fun _ => rfl) (by omega)
  have hcap := h.cap
  have hle := h.le
  have hcap2 := h2.cap
  have hle2 := h2.le
  unfold maxLen at hcap hcap2
  rcases placeW_cases n (U a) m (by omega) with ⟨i, hik, -, hp⟩ | ⟨j, hp⟩
  · simp only [Int.toNat_natCast] at hik
    have hr : writeW l (U a) xs = (wr l i xs, 0) := by unfold writeW; rw [hlen, hlen2, hp]; rfl
    have hsa : setAll l (i + 0) (xs.drop 0) = wr l i xs := setAll_wr xs l i (by omega)
    have hwl : (wr l i xs).length = n := by rw [wr_len _ _ _ (by omega), hlen]
    rw [hr]
    obtain ⟨W, hW⟩ : ∃ W, W = wr l i xs := ⟨_, rfl⟩
    rw [← hW] at hsa hwl ⊢
    have HL := Lib.hid hlen
    have HL2 := Lib.hid hlen2
    have HW := Lib.hid hwl
    have HP := Lib.hid hp
    have HN := Lib.hid hn
    have HS := Lib.hid hsa
    clear hr hp hlen hlen2 hwl hn hsa hW
    have hown0 := World.ownsRow_lit (e := 23) (size := 1) (base := w.heap.size) w #[] 0 (Nat.le_refl _) (by decide) rfl
    go_enter Try.func23, Try.ntmps23
    repeat (first
      | (go_at_call 26; refine (span_any A n c a _ _ HN.out).mono ?_; rw [HP.out]; rintro e w' ⟨rfl, rfl⟩; unfold retIB; dsimp only)
      | (at_builtin; refine wpList_app rfl _ _ _ rfl tyWords rfl hown0 rfl (h.alloc (Nat.le_refl _) _) (cells_one _) (by have := HN.out; unfold maxLen; omega) (by have := HN.out; omega) (by simp) ?_; intro v' w1 hown' hb')
      | go_values | go_skip | go_guarded | go_step | go_upon)
    rw [Nat.zero_add] at hown'
    have hb1 : Below w.heap.size w w1 := (keep_alloc (Below.refl _ _) _).trans hb'
    go_loopw [11] (fun x wq => ∃ (k : Nat) (cur : List (BitVec 64)), k ≤ m ∧ x = .int .i64 k ∧ cur.length = n ∧ wq.ownsRow w.heap.size 23 1 v' n (cur.flatMap wordCells) ∧ Below w.heap.size w wq ∧ setAll cur (i + k) (xs.drop k) = W) (fun x _ => m - (intOf x).toNat)
    case atStart => exact ⟨0, l, Nat.zero_le _, rfl, HL.out, hown', hb1, HS.out⟩
    case round =>
      obtain ⟨k, cur, hk, rfl, hcur, hown, hb, hspec⟩ := hrel
      have HCU := Lib.hid hcur
      by_cases hlt : k < m
      · obtain ⟨b, off, x, rfl, hbb, hx, hc⟩ := (h2.below hb).elem (fun _ => rfl) (by omega) hlt
        have c0 := hc 0 _ rfl
        rw [Nat.add_zero, Nat.mul_one] at c0
        rw [drop_at hx, setAll] at hspec
        have H := Lib.hid hspec
        clear hspec hx hc hcur
        rcases hown.2 with ⟨-, hz⟩ | ⟨g, cap, cu, rfl, hbg, hg, -, -, -, -⟩
        · exfalso; omega
        have hfz := hown.frozenAt (i + k)
        have hx0 : (0 : Int) ≤ (i : Int) + (k : Int) := by omega
        have hx1 : (i : Int) + (k : Int) < (n : Int) := by omega
        have hk0 : (0 : Int) ≤ (k : Int) := by omega
        have hk1 : (k : Int) < (m : Int) := by omega
        have hwr : IntKind.i64.wrap ((i : Int) + (k : Int)) = (i : Int) + (k : Int) := IntWalk.i64_in _ (by omega)
        have hwn : ((i : Int) + (k : Int)).toNat = i + k := by omega
        have hcell : wr.cell? ⟨g, i + k, none⟩ = some (.int .u64 (U (cur[i + k]'(by rw [HCU.out]; omega)))) := by
          rw [hown.cellAt (i + k) (by omega), words_map, List.getElem?_map, List.getElem?_eq_getElem (by rw [HCU.out]; omega)]
          rfl
        have hst := (hown.stored (i + k) (.int .u64 (U x))).1
        rw [set_cells] at hst
        have HST := Lib.hid hst
        clear hg hst
        go_wp2_with fail
        go_round
        case rel => exact ⟨k + 1, cur.set (i + k) x, hlt, by go_num, by rw [List.length_set]; exact HCU.out, HST.out, keep_set hb hbg _, H.out⟩
        case measure => simp [intOf]; omega
      · rw [drop_end HL2.out hlt, setAll] at hspec
        subst hspec
        go_wp2_with fail
        go_ret2
        obtain ⟨A', c', rfl, hr'⟩ := Reads.own hown
        exact ⟨_, _, by rw [HCU.out]; rfl, by rw [HCU.out]; exact hr', hb⟩
  · have hr : writeW l (U a) xs = ([], 2) := by unfold writeW; rw [hlen, hlen2, hp]; rfl
    rw [hr]
    have HP := Lib.hid hp
    have HN := Lib.hid hn
    clear hr hp hlen hlen2 hn
    go_enter Try.func23, Try.ntmps23
    go_wp2_with (go_at_call 26; refine (span_any A n c a _ _ HN.out).mono ?_; rw [HP.out]; rintro e w' ⟨rfl, rfl⟩; unfold retIB; dsimp only)
    go_ret2
    exact ⟨none, 0, rfl, Reads.nil, Below.refl _ _⟩

theorem RetWs.up {w : World} {o : Obj} {r : List (BitVec 64) × Int} {e : Ending} {w' : World} (h : RetWs (w.alloc o) r e w') : RetWs w r e w' := by
  obtain ⟨A, c, h1, h2, h3⟩ := h
  exact ⟨A, c, h1, h2, (keep_alloc (Below.refl _ _) _).trans (h3.mono (by simp))⟩
theorem one_word (w : World) (v : BitVec 64) : Reads (w.alloc (.cells #[.int .u64 (U v)] 23)) (w.alloc (.cells #[.int .u64 (U v)] 23)).heap.size 1 (some ⟨w.heap.size, 0, none⟩) 1 1 ([v].flatMap wordCells) :=
  Reads.freshAs w _ _ 1 1 _ rfl rfl (by decide)

theorem store_any (A : Option Addr) (n c : Nat) (l : List (BitVec 64)) (a v : BitVec 64) (w : World) (h : Reads w w.heap.size 1 A n c (l.flatMap wordCells)) (hn : n ≤ 1000000) :
    Calls Try.prog 17 #[.slice A n c, .int .u64 (U a), .int .u64 (U v)] w (RetWs w (writeW l (U a) [v])) := by
  go_enter Try.func17, Try.ntmps17
  go_wp2_with fail
  refine (write_any _ _ _ _ _ _ _ _ _ _ ((h.alloc (Nat.le_refl _) _).more (by simp)) (one_word w v) hn).mono ?_
  rintro e w' hr
  obtain ⟨A', c', rfl, h2, h3⟩ := hr.up
  go_wp2_with fail
  go_ret2
  exact ⟨A', c', rfl, h2, h3⟩
theorem rstore_any (A : Option Addr) (n c : Nat) (l : List (BitVec 64)) (a v : BitVec 64) (w : World) (h : Reads w w.heap.size 1 A n c (l.flatMap wordCells)) (hn : n ≤ 1000000) :
    Calls Try.prog 18 #[.slice A n c, .int .u64 (U a), .int .u64 (U v)] w (RetWs w (writeW l (U a) [v])) := by
  go_enter Try.func18, Try.ntmps18
  go_wp2_with fail
  refine (rwrite_any _ _ _ _ _ _ _ _ _ _ ((h.alloc (Nat.le_refl _) _).more (by simp)) (one_word w v) hn).mono ?_
  rintro e w' hr
  obtain ⟨A', c', rfl, h2, h3⟩ := hr.up
  go_wp2_with fail
  go_ret2
  exact ⟨A', c', rfl, h2, h3⟩
end Go.Proofs.Ytopdplehnknbiaa

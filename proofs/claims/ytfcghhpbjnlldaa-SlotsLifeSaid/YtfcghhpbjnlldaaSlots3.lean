/- The contracts of Clone, slots.clone and the comparison of tables. -/
import Derived.Test.YtfcghhpbjnlldaaSlots2
import Derived.Laws.OwnMore
import Derived.Laws.StructEq
namespace Go.Proofs.Ytfcghhpbjnlldaa
open Go.RowKit Words

/-- a clone: a row of the call's own -/
def RetOwn (w : World) (e : TypeId) (s n : Nat) (xs : List Value) (r : Ending) (w' : World) : Prop :=
  ∃ v, r = .returned v ∧ w'.ownsRow w.heap.size e s v n xs ∧ Below w.heap.size w w'

theorem clone_any (A : Option Addr) (n c : Nat) (l : List Ent) (w : World) (h : Reads w w.heap.size 3 A n c (l.flatMap entCells)) (hn : n ≤ 1000000) :
    Calls Try.prog 31 #[.slice A n c] w (RetOwn w 30 3 n (l.flatMap entCells)) := by
  obtain ⟨xs, hxs⟩ : ∃ xs, l.flatMap entCells = xs := ⟨_, rfl⟩
  have h1 := entCells_one l
  rw [hxs] at h h1 ⊢
  clear hxs
  cases A with
  | none =>
    obtain rfl := h.none_ rfl
    have hle := h.le
    have hn0 : n = 0 := by omega
    subst hn0
    have hx : xs = [] := List.eq_nil_of_length_eq_zero (by simpa using h.len)
    subst hx
    have hnil := fun W => Lib.run_eql_slice_nil (P := Try.prog) W _ _ none 0 0 0 0 Try.underlying22
    go_enter Try.func31, Try.ntmps31
    go_wp2_with fail
    go_ret
    exact ⟨_, rfl, World.ownsRow_nil _ _ _ _, Below.refl _ _⟩
  | some ad =>
    have hnil := fun W => Lib.run_eql_slice_nil (P := Try.prog) W _ _ (some ad) n c 0 0 Try.underlying22
    have hown := World.ownsRow_lit (e := 30) (size := 3) (base := w.heap.size) w #[] 0 (Nat.le_refl _) (by decide) rfl
    go_enter Try.func31, Try.ntmps31
    go_wp2_with (at_builtin; refine wpList_app rfl _ _ _ rfl tyEnts rfl hown rfl (h.alloc (Nat.le_refl _) _) h1 ?c1 ?c2 ?c3 ?_)
    case c1 => unfold maxLen; omega
    case c2 => omega
    intro v' w1 hown' hb'
    go_wp2
    go_ret
    exact ⟨_, rfl, hown', (keep_alloc (Below.refl _ _) _).trans hb'⟩

theorem own_base {w : World} {base base' e s n : Nat} {v : Value} {xs : List Value} (h : w.ownsRow base e s v n xs) (hb : base' ≤ base) : w.ownsRow base' e s v n xs :=
  ⟨h.1, h.2.imp id fun ⟨g, cap, cur, he, hg, r⟩ => ⟨g, cap, cur, he, Nat.le_trans hb hg, r⟩⟩
/-- a table with memory of its own comes back -/
def RetTab (w : World) (n : Nat) (xs : List Value) (r : Ending) (w' : World) : Prop :=
  ∃ A' c', r = .returned (tabV A' n c') ∧ w'.ownsRow w.heap.size 30 3 (.slice A' n c') n xs ∧ Below w.heap.size w w'

theorem tabclone_any (A : Option Addr) (n c : Nat) (l : List Ent) (w : World) (h : Reads w w.heap.size 3 A n c (l.flatMap entCells)) (hn : n ≤ 1000000) :
    Calls Try.prog 26 #[tabV A n c] w (RetTab w n (l.flatMap entCells)) := by
  have hW := tab_alloc w A n c
  have ha := ((h.alloc (Nat.le_refl _) (.cells #[.slice A n c] 24)).more (B' := w.heap.size + 1) (by omega)).alloc (by simp) (.cells #[.slice none 0 0] 24) |>.more (B' := w.heap.size + 2) (by omega)
  have ha : Reads ((w.alloc (.cells #[.slice A n c] 24)).alloc (.cells #[.slice none 0 0] 24)) ((w.alloc (.cells #[.slice A n c] 24)).alloc (.cells #[.slice none 0 0] 24)).heap.size 3 A n c (l.flatMap entCells) := by simpa using ha
  have B0 := Blk.newAt (w.alloc (.cells #[.slice A n c] 24)) #[.slice none 0 0] 24 (w.heap.size + 1) (by simp)
  go_enter Try.func26, Try.ntmps26
  go_wp2_with fail
  refine (clone_any A n c l _ ha hn).mono ?_
  rintro e w2 ⟨v, rfl, hown, hb⟩
  obtain ⟨A', c', rfl, -⟩ := Reads.own hown
  have B1 := B0.below hb
  have q0 : w2.cell? ⟨w.heap.size + 1, 0, none⟩ = some (.slice none 0 0) := B1.cell 0 _ rfl
  have f0 := B1.free
  have hs := hb.size
  simp at hs
  go_wp2_with fail
  refine bodyPost_ret (v := tabV A' n c') (by simp [results, Try.results26, go_sem, q0]) rfl ?_
  refine ⟨A', c', rfl, own_base (ownsRow_setCell_below hown (by simp) _) (by simp; omega), ?_⟩
  exact (((Below.refl _ _).alloc (Nat.le_refl _) _).alloc (by simp) _).trans (hb.mono (by simp; omega)) |>.setCell (by simp) _

theorem ent_eta (x : Ent) : x = ⟨x.gen, x.ref, x.live⟩ := rfl
theorem same_any (A A' : Option Addr) (n n' c c' : Nat) (l l' : List Ent) (w : World) (h : Reads w w.heap.size 3 A n c (l.flatMap entCells)) (h' : Reads w w.heap.size 3 A' n' c' (l'.flatMap entCells)) :
    Calls Try.prog 19 #[tabV A n c, tabV A' n' c'] w fun e w' => e = .returned (.bool (decide (l = l'))) ∧ Below w.heap.size w w' := by
  have hlen := h.length entCells_len (by omega)
  have hcap := h.cap
  have hle := h.le
  have hlen' := h'.length entCells_len (by omega)
  have hcap' := h'.cap
  have hle' := h'.le
  unfold maxLen at hcap hcap'
  have hW : Below w.heap.size w ((w.alloc (.cells #[.slice A n c] 24)).alloc (.cells #[.slice A' n' c'] 24)) := keep_alloc (tab_alloc w A n c) _
  by_cases hn : n = n'
  · subst hn
    have HL := Lib.hid hlen
    have HL' := Lib.hid hlen'
    clear hlen hlen'
    have c0 : ((w.alloc (.cells #[.slice A n c] 24)).alloc (.cells #[.slice A' n c'] 24)).cell? ⟨w.heap.size, 0, none⟩ = some (.slice A n c) := ((Blk.new w #[.slice A n c] 24).alloc _).cell 0 _ rfl
    have c0' : ((w.alloc (.cells #[.slice A n c] 24)).alloc (.cells #[.slice A' n c'] 24)).cell? ⟨w.heap.size + 1, 0, none⟩ = some (.slice A' n c') := (Blk.newAt (w.alloc (.cells #[.slice A n c] 24)) #[.slice A' n c'] 24 (w.heap.size + 1) (by simp)).cell 0 _ rfl
    go_enter Try.func19, Try.ntmps19
    go_wp2_with fail
    obtain ⟨w1, hw1⟩ : ∃ w1, (w.alloc (.cells #[.slice A n c] 24)).alloc (.cells #[.slice A' n c'] 24) = w1 := ⟨_, rfl⟩
    rw [hw1] at c0 c0' hW ⊢
    have a1 := h.below hW
    have a1' := h'.below hW
    clear hw1
    go_loopw [5] (fun i wr => ∃ k m : Nat, k ≤ n ∧ i = .int .i64 k ∧ wr = w1.drewN m ∧ (l = l' ↔ l.drop k = l'.drop k)) (fun i _ => n - (intOf i).toNat)
    case atStart => exact ⟨0, 0, Nat.zero_le _, rfl, rfl, Iff.rfl⟩
    case round =>
      obtain ⟨k, m, hk, rfl, rfl, hspec⟩ := hrel
      by_cases hlt : k < n
      · obtain ⟨b, off, x, rfl, hbb, hx, hc⟩ := a1.elem entCells_len (by omega) hlt
        have d0 := hc 0 _ rfl
        have d1 := hc 1 _ rfl
        have d2 := hc 2 _ rfl
        rw [Nat.add_zero] at d0
        obtain ⟨b', off', x', rfl, hbb', hx', hc'⟩ := a1'.elem entCells_len (by omega) hlt
        have d0' := hc' 0 _ rfl
        have d1' := hc' 1 _ rfl
        have d2' := hc' 2 _ rfl
        rw [Nat.add_zero] at d0'
        rw [drop_at hx, drop_at hx'] at hspec
        have H := Lib.hid hspec
        clear hspec hx hc hx' hc'
        have hk0 : (0 : Int) ≤ (k : Int) := by omega
        have hk1 : (k : Int) < (n : Int) := by omega
        obtain ⟨g, r, v⟩ := x
        obtain ⟨g', r', v'⟩ := x'
        dsimp only at d0 d1 d2 d0' d1' d2'
        by_cases t0 : g = g'
        · subst t0
          have b0 : (g == g) = true := by simp
          by_cases t1 : r = r'
          · subst t1
            have b1 : (U r == U r) = true := by simp
            by_cases t2 : v = v'
            · subst t2
              go_wp2_with fail
              go_quiet (fail)
              go_wp2
              go_roundw
              case rel => exact ⟨k + 1, _, by omega, by go_num, rfl, by rw [H.out]; simp⟩
              case measure => simp [intOf]; omega
            · have b2 : (v == v') = false := by simp [t2]
              have HD := Lib.hid (show ¬ (⟨g, r, v⟩ : Ent) = ⟨g, r, v'⟩ by simp [t2])
              clear t2
              go_wp2_with fail
              go_quiet (fail)
              go_wp2
              go_ret
              exact ⟨ret_b (by rw [eq_comm, decide_eq_false_iff_not, H.out]; intro e; injection e with e1 e2; exact HD.out e1), below_drewN (below_drewN hW _) _⟩
          · have b1 : (U r == U r') = false := by rw [U_eq]; simp [t1]
            have HD := Lib.hid (show ¬ (⟨g, r, v⟩ : Ent) = ⟨g, r', v'⟩ by simp [t1])
            clear t1
            go_wp2_with fail
            go_quiet (fail)
            go_wp2
            go_ret
            exact ⟨ret_b (by rw [eq_comm, decide_eq_false_iff_not, H.out]; intro e; injection e with e1 e2; exact HD.out e1), below_drewN (below_drewN hW _) _⟩
        · have b0 : (g == g') = false := by simp [t0]
          have HD := Lib.hid (show ¬ (⟨g, r, v⟩ : Ent) = ⟨g', r', v'⟩ by simp [t0])
          clear t0
          go_wp2_with fail
          go_quiet (fail)
          go_wp2
          go_ret
          exact ⟨ret_b (by rw [eq_comm, decide_eq_false_iff_not, H.out]; intro e; injection e with e1 e2; exact HD.out e1), below_drewN (below_drewN hW _) _⟩
      · have hend := drop_end HL.out hlt
        have hend' := drop_end HL'.out hlt
        rw [hend, hend'] at hspec
        have H := Lib.hid (hspec.2 rfl)
        clear hspec hend hend'
        go_wp2_with fail
        go_ret
        exact ⟨ret_b (by rw [eq_comm, decide_eq_true_eq]; exact H.out), below_drewN hW _⟩
  · have hll : ¬ l = l' := fun e => hn (by rw [← hlen, ← hlen', e])
    have HLL := Lib.hid hll
    have hn1 : ((n : Int) != (n' : Int)) = true := by simp; omega
    clear hll hlen hlen' hn
    go_enter Try.func19, Try.ntmps19
    go_wp2_with fail
    go_ret
    exact ⟨ret_b (by rw [eq_comm, decide_eq_false_iff_not]; exact HLL.out), hW⟩
end Go.Proofs.Ytfcghhpbjnlldaa

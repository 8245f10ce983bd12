/- The contracts of slots.Set and Delete. -/
import Derived.Test.YtfcghhpbjnlldaaSlots4
namespace Go.Proofs.Ytfcghhpbjnlldaa
open Go.RowKit Words

theorem set_flat {α : Type} (f : α → List Value) (s : Nat) (hs : ∀ a, (f a).length = s) (l : List α) (k j : Nat) (u : Value) (a a' : α) (hk : l[k]? = some a) (hj : j < s) (ha : f a' = (f a).set j u) :
    (l.flatMap f).set (k * s + j) u = (l.set k a').flatMap f := by
  induction l generalizing k with
  | nil => simp at hk
  | cons b r ih =>
    cases k with
    | zero =>
      simp at hk
      subst hk
      rw [List.set_cons_zero, List.flatMap_cons, List.flatMap_cons, Nat.zero_mul, Nat.zero_add, List.set_append_left _ _ (by rw [hs]; exact hj), ha]
    | succ k =>
      simp at hk
      rw [List.set_cons_succ, List.flatMap_cons, List.flatMap_cons, List.set_append_right _ _ (by rw [hs, Nat.succ_mul]; omega), hs, ← ih k hk]
      congr 2
      rw [Nat.succ_mul]; omega

/-- a table and an error code come back -/
def RetTE (w : World) (r : List Ent × Int) (e : Ending) (w' : World) : Prop :=
  ∃ A c, e = .returned (.tuple #[tabV A r.1.length c, .int .i64 r.2]) ∧ Reads w' w'.heap.size 3 A r.1.length c (r.1.flatMap entCells) ∧ Below w.heap.size w w'

/-- the same, in memory of the call's own -/
def RetTEO (w : World) (r : List Ent × Int) (e : Ending) (w' : World) : Prop :=
  ∃ A c, e = .returned (.tuple #[tabV A r.1.length c, .int .i64 r.2]) ∧ w'.ownsRow w.heap.size 30 3 (.slice A r.1.length c) r.1.length (r.1.flatMap entCells) ∧ Below w.heap.size w w'
theorem RetTEO.read {w : World} {r : List Ent × Int} {e : Ending} {w' : World} (h : RetTEO w r e w') : RetTE w r e w' := by
  obtain ⟨A, c, he, ho, hb⟩ := h
  obtain ⟨A2, c2, e2, hr⟩ := Reads.own ho
  injection e2 with x1 x2 x3
  subst x1 x3
  exact ⟨A, c, he, hr, hb⟩
theorem check_ok {l : List Ent} {i g : Int} (h : checkW l i g = 0) : ∃ (k : Nat) (x : Ent), i = k ∧ l[k]? = some x ∧ x.gen = g ∧ x.live = true := by
  unfold checkW at h
  split at h
  · cases h
  · unfold entAt at h
    split at h
    · cases h
    · rename_i x hx
      split at hx
      · cases hx
      · refine ⟨i.toNat, x, by omega, hx, ?_, ?_⟩
        · unfold checkE at h
          split at h
          · cases h
          · split at h
            · cases h
            · omega
        · unfold checkE at h
          split at h
          · cases h
          · split at h
            · cases h
            · rename_i h2
              cases hx : x.live
              · exact absurd (Or.inr hx) h2
              · rfl

def setW (l : List Ent) (i g : Int) (r : BitVec 64) : List Ent × Int := if checkW l i g = 0 then (l.set i.toNat ⟨g, r, true⟩, 0) else ([], checkW l i g)

theorem set_own (A : Option Addr) (n c : Nat) (l : List Ent) (i g : Int) (r : BitVec 64) (w : World) (h : Reads w w.heap.size 3 A n c (l.flatMap entCells)) (hn : n ≤ 1000000) :
    Calls Try.prog 16 #[tabV A n c, .int .i64 i, .int .i64 g, .int .u64 (U r)] w (RetTEO w (setW l i g r)) := by
  have hlen := h.length entCells_len (by omega)
  have hcap := h.cap
  have hle := h.le
  unfold maxLen at hcap
  have hW : Below w.heap.size w ((w.alloc (.cells #[.slice A n c] 24)).alloc (.cells #[.slice none 0 0] 24)) := keep_alloc (tab_alloc w A n c) _
  have B0 := (Blk.new w #[.slice A n c] 24).alloc (.cells #[.slice none 0 0] 24)
  have R0 := Blk.newAt (w.alloc (.cells #[.slice A n c] 24)) #[.slice none 0 0] 24 (w.heap.size + 1) (by simp)
  have ha := (h.below hW).more (B' := ((w.alloc (.cells #[.slice A n c] 24)).alloc (.cells #[.slice none 0 0] 24)).heap.size) (by simp; omega)
  by_cases h0 : checkW l i g = 0
  · obtain ⟨k, x, rfl, hx, hg, hlv⟩ := check_ok h0
    have hk : k < n := by rw [← hlen]; exact (List.getElem?_eq_some_iff.1 hx).1
    have hr : setW l k g r = (l.set k ⟨g, r, true⟩, 0) := by unfold setW; rw [if_pos h0, Int.toNat_natCast]
    have hset : (l.flatMap entCells).set (k * 3 + 1) (.int .u64 (U r)) = (l.set k ⟨g, r, true⟩).flatMap entCells := set_flat entCells 3 entCells_len l k 1 _ x _ hx (by omega) (by rw [← hg, ← hlv]; rfl)
    have hsl : (l.set k ⟨g, r, true⟩).length = n := by rw [List.length_set, hlen]
    rw [hr]
    obtain ⟨L, hL⟩ : ∃ L, l.set k ⟨g, r, true⟩ = L := ⟨_, rfl⟩
    rw [hL] at hset hsl ⊢
    have HC := Lib.hid h0
    have HS := Lib.hid hset
    have HL := Lib.hid hsl
    have hcl : (l.flatMap entCells).length = n * 3 := by rw [flat_len _ 3 entCells_len, hlen]
    have HCL := Lib.hid hcl
    have k0 : (0 : Int) ≤ (k : Int) := by omega
    have k1 : (k : Int) < (n : Int) := by omega
    have HN := Lib.hid hn
    clear h0 hset hsl hr hL hx hlen hg hlv hcl hn
    go_enter Try.func16, Try.ntmps16
    go_wp2_with fail
    refine (check_any _ _ _ _ _ _ _ ha).mono ?_
    rw [HC.out]
    rintro e w1 ⟨rfl, hb1⟩
    have B1 := B0.below hb1
    have R1 := R0.below hb1
    have hs1 := hb1.size
    simp at hs1
    have q0 : w1.cell? ⟨w.heap.size, 0, none⟩ = some (.slice A n c) := B1.cell 0 _ rfl
    have hB1 : Below w.heap.size w w1 := hW.trans (hb1.mono (by simp; omega))
    go_wp2_with fail
    refine (tabclone_any A n c l _ (ha.belowU hb1) HN.out).mono ?_
    rintro e w2 ⟨A', c', rfl, hown, hb2⟩
    rcases hown.2 with ⟨-, hz⟩ | ⟨gb, cap, cu, hgb, hbg, -, -, -, -, -⟩
    · exfalso; omega
    simp only [Value.slice.injEq] at hgb
    obtain ⟨rfl, -, rfl⟩ := hgb
    have B2 := B1.below hb2
    have R2 := R1.below hb2
    have hs2 := hb2.size
    have q0' : w2.cell? ⟨w.heap.size, 0, none⟩ = some (.slice A n c) := B2.cell 0 _ rfl
    have r0' : w2.cell? ⟨w.heap.size + 1, 0, none⟩ = some (.slice none 0 0) := R2.cell 0 _ rfl
    have fq := B2.free
    have fr := R2.free
    have fz := hown.frozenAt (k * 3 + 1)
    have hcell := hown.cellAt (k * 3 + 1) (by omega)
    rw [List.getElem?_eq_getElem (by rw [HCL.out]; omega)] at hcell
    have hown1 := ownsRow_setCell_below hown (a := ⟨w.heap.size, 0, none⟩) (by show w.heap.size < _; omega) (.slice (some ⟨gb, 0, none⟩) n c')
    have hown2 := (hown1.stored (k * 3 + 1) (.int .u64 (U r))).1
    rw [HS.out] at hown2
    have hown3 := ownsRow_setCell_below hown2 (a := ⟨w.heap.size + 1, 0, none⟩) (by show w.heap.size + 1 < _; omega) (.slice (some ⟨gb, 0, none⟩) n c')
    have HST := Lib.hid hown3
    have hB2 : Below w.heap.size w w2 := keep_below hb2 hB1
    clear hown1 hown2 hown3 hown q0 B0 R0 B1 R1
    go_wp2_with fail
    refine bodyPost_ret (v := .tuple #[tabV (some ⟨gb, 0, none⟩) n c', .int .i64 0]) (by simp [results, Try.results16, go_sem, r0']) rfl ?_
    refine ⟨_, _, by rw [HL.out], by rw [HL.out]; exact own_base HST.out (by omega), ?_⟩
    exact ((hB2.setCell (by simp) _).setCell (by show w.heap.size ≤ gb; omega) _).setCell (by simp) _
  · obtain ⟨er, her⟩ : ∃ er, checkW l i g = er := ⟨_, rfl⟩
    have hr : setW l i g r = ([], er) := by unfold setW; rw [if_neg h0, her]
    rw [hr]
    rw [her] at h0
    have h0' : (er != 0) = true := by simp [h0]
    have HC := Lib.hid her
    clear her h0 hr
    go_enter Try.func16, Try.ntmps16
    go_wp2_with fail
    refine (check_any _ _ _ _ _ _ _ ha).mono ?_
    rw [HC.out]
    rintro e w1 ⟨rfl, hb1⟩
    have R1 := R0.below hb1
    have r0' : w1.cell? ⟨w.heap.size + 1, 0, none⟩ = some (.slice none 0 0) := R1.cell 0 _ rfl
    have fr := R1.free
    have hs1 := hb1.size
    simp at hs1
    have hB1 : Below w.heap.size w w1 := hW.trans (hb1.mono (by simp; omega))
    go_wp2_with fail
    refine bodyPost_ret (v := .tuple #[tabV none 0 0, .int .i64 er]) (by simp [results, Try.results16, go_sem, r0']) rfl ?_
    exact ⟨none, 0, rfl, World.ownsRow_nil _ _ _ _, hB1.setCell (by simp) _⟩
theorem set_any (A : Option Addr) (n c : Nat) (l : List Ent) (i g : Int) (r : BitVec 64) (w : World) (h : Reads w w.heap.size 3 A n c (l.flatMap entCells)) (hn : n ≤ 1000000) :
    Calls Try.prog 16 #[tabV A n c, .int .i64 i, .int .i64 g, .int .u64 (U r)] w (RetTE w (setW l i g r)) :=
  (set_own A n c l i g r w h hn).mono fun _ _ h => h.read
end Go.Proofs.Ytfcghhpbjnlldaa

/- The contracts of header's Pointers, of its reference, and of SameInts. -/
import Derived.Test.YtcnlfokgofmnkaaPtr
import Derived.BigQuiet
import Derived.Deep.QuietTactic
namespace Go.Proofs.Ytcnlfokgofmnkaa
open Go.RowKit Words

def RetPs (w : World) (l : List Int) (e : Ending) (w' : World) : Prop :=
  ∃ A c, e = .returned (.slice A l.length c) ∧ Reads w' w'.heap.size 1 A l.length c (l.flatMap intCells) ∧ Below w.heap.size w w'

theorem pointers_any (k len m : Int) (w : World) (hm0 : 0 ≤ m) (hm1 : m ≤ 4294967295) :
    Calls Try.prog 14 #[headV k len m] w (RetPs w (plH k len m len.toNat)) := by
  have B0 := Blk.new w #[.int .i64 k, .int .i64 len, .int .u32 m] 24
  have M0 := Lib.hid hm0
  have M1 := Lib.hid hm1
  clear hm0 hm1
  obtain ⟨sz, hsz0, hsz1, hsz2, hsz3⟩ : ∃ n : Nat, sizeH k len m = n ∧ n ≤ 256 ∧ (validH k len m = true → 0 ≤ len ∧ n = len.toNat + 1) ∧ (validH k len m = false → n = 0) := by
    by_cases hv : validH k len m = true
    · obtain ⟨l0, l1, _⟩ := valid_len hv
      exact ⟨len.toNat + 1, by unfold sizeH; rw [if_pos hv]; omega, by omega, fun _ => ⟨l0, rfl⟩, (fun h => by rw [hv] at h; cases h)⟩
    · simp only [Bool.not_eq_true] at hv
      exact ⟨0, by unfold sizeH; rw [hv]; rfl, by omega, (fun h => by rw [hv] at h; cases h), fun _ => rfl⟩
  have hfin : plH k len m sz = plH k len m len.toNat := by
    by_cases hv : validH k len m = true
    · obtain ⟨l0, hn⟩ := hsz2 hv
      rw [hn, plH_end k len m l0]
    · simp only [Bool.not_eq_true] at hv
      rw [plH_bad k len m hv, plH_bad k len m hv]
  have HS := Lib.hid hsz0
  have HF := Lib.hid hfin
  clear hsz0 hsz2 hsz3 hfin
  go_enter Try.func14, Try.ntmps14
  go_wp2_with fail
  refine (size_any _ _ _ _ M0.out M1.out).mono ?_
  rw [HS.out]
  rintro e w1 ⟨rfl, hb⟩
  have B1 := B0.below hb
  have hB : Below w.heap.size w w1 := by repeat (first | exact Below.refl _ _ | assumption | refine keep_alloc ?_ _ | refine keep_below (by assumption) ?_)
  have hs1 := hb.size
  simp only [World.size_alloc] at hs1
  clear hb B0
  have hBl := Lib.hid B1
  clear B1
  go_wp2_with fail
  go_loopw [3, 7] (fun v i wr => ∃ (j : Nat), j ≤ sz ∧ i = .int .i64 j ∧ wr.ownsRow w1.heap.size 3 1 v (plH k len m j).length ((plH k len m j).flatMap intCells) ∧ Below w1.heap.size w1 wr) (fun _ i _ => sz - (intOf i).toNat)
  case atStart => exact ⟨0, Nat.zero_le _, rfl, World.ownsRow_nil _ _ _ _, Below.refl _ _⟩
  case round =>
    obtain ⟨j, hj, rfl, hown, hbr⟩ := hrel
    have hsz := hbr.size
    have hle := plH_le k len m j
    by_cases hlt : j < sz
    · have Br := hBl.out.below hbr
      have c0 : wr.cell? ⟨w.heap.size, 0, none⟩ = some (.int .i64 k) := Br.cell 0 _ rfl
      have c1 : wr.cell? ⟨w.heap.size, 1, none⟩ = some (.int .i64 len) := Br.cell 1 _ rfl
      have c2 : wr.cell? ⟨w.heap.size, 2, none⟩ = some (.int .u32 m) := Br.cell 2 _ rfl
      clear Br
      go_wp2_with fail
      refine (pointer_any _ _ _ _ _ M0.out M1.out (by omega) (by omega)).mono ?_
      rintro e w2 ⟨rfl, hb2⟩
      have hown2 := own_keep hown hb2
      have hbr2 := keep_below hb2 hbr
      have hs2 := hbr2.size
      clear c0 c1 c2 hb2 hown hbr
      have hsc := plH_succ k len m j
      by_cases hp : ptrH k len m j = true
      · rw [if_pos hp] at hsc
        have HC := Lib.hid hsc
        clear hsc
        go_wp2_with (at_builtin; refine wpList_app rfl _ _ _ rfl tyInts rfl (hown2.alloc _) rfl (Reads.fresh _ _ _ 1 1 rfl (by decide)) (by simp [Value.oneCell']) ?c1 ?c2 ?c3 ?_)
        case c1 => unfold maxLen; omega
        case c2 => omega
        case c3 => first | omega | (simp; omega)
        intro v' w3 hown' hb'
        go_wp2
        go_roundw
        case rel =>
          refine ⟨j + 1, by omega, by go_num, ?_, ?_⟩
          · rw [HC.out, List.flatMap_append, List.length_append]; exact hown'
          · exact (hbr2.alloc hs2 _).trans hb'
        case measure => simp [intOf]; omega
      · rw [if_neg hp, List.append_nil] at hsc
        simp only [Bool.not_eq_true] at hp
        have HC := Lib.hid hsc
        clear hsc
        go_wp2_with fail
        go_roundw
        case rel =>
          refine ⟨j + 1, by omega, by go_num, ?_, hbr2⟩
          rw [HC.out]; exact hown2
        case measure => simp [intOf]; omega
    · have hjs : j = sz := by omega
      subst hjs
      rw [HF.out] at hown
      obtain ⟨A', c', rfl, hr⟩ := Reads.own hown
      go_wp2_with fail
      go_ret
      exact ⟨A', c', rfl, hr, keep_below hbr hB⟩

theorem rpointers_any (k len m : Int) (w : World) (hm0 : 0 ≤ m) (hm1 : m ≤ 4294967295) :
    Calls Try.prog 20 #[headV k len m] w (RetPs w (plH k len m len.toNat)) := by
  have B0 := Blk.new w #[.int .i64 k, .int .i64 len, .int .u32 m] 24
  have M0 := Lib.hid hm0
  have M1 := Lib.hid hm1
  clear hm0 hm1
  by_cases hv : validH k len m = true
  · obtain ⟨l0, l1, _⟩ := valid_len hv
    go_enter Try.func20, Try.ntmps20
    go_wp2_with fail
    have hBl := Lib.hid B0
    clear B0
    generalize hw1 : w.alloc (.cells #[.int .i64 k, .int .i64 len, .int .u32 m] 24) = w1 at *
    have hB : Below w.heap.size w w1 := by rw [← hw1]; exact keep_alloc (Below.refl _ _) _
    have hs1 := hB.size
    clear hw1
    go_loopw [3, 4] (fun v i wr => ∃ (j : Nat), j ≤ len.toNat ∧ i = .int .i64 j ∧ wr.ownsRow w1.heap.size 3 1 v (plH k len m j).length ((plH k len m j).flatMap intCells) ∧ Below w1.heap.size w1 wr) (fun _ i _ => len.toNat - (intOf i).toNat)
    case atStart => exact ⟨0, Nat.zero_le _, rfl, World.ownsRow_nil _ _ _ _, Below.refl _ _⟩
    case round =>
      obtain ⟨j, hj, rfl, hown, hbr⟩ := hrel
      have hsz := hbr.size
      have hle := plH_le k len m j
      have Br := hBl.out.below hbr
      have c0 : wr.cell? ⟨w.heap.size, 0, none⟩ = some (.int .i64 k) := Br.cell 0 _ rfl
      have c1 : wr.cell? ⟨w.heap.size, 1, none⟩ = some (.int .i64 len) := Br.cell 1 _ rfl
      have c2 : wr.cell? ⟨w.heap.size, 2, none⟩ = some (.int .u32 m) := Br.cell 2 _ rfl
      by_cases hlt : j < len.toNat
      · have hlt' : (j : Int) < len := by omega
        go_wp2_with fail
        refine (rvalid_any _ _ _ _ M0.out M1.out).mono ?_
        rintro e w2 ⟨rfl, hb2⟩
        have hown2 := own_keep hown hb2
        have hbr2 := keep_below hb2 hbr
        have Br2 := Br.below hb2
        clear c0 c1 c2 hb2 hown hbr Br hsz
        have c0 : w2.cell? ⟨w.heap.size, 0, none⟩ = some (.int .i64 k) := Br2.cell 0 _ rfl
        have c1 : w2.cell? ⟨w.heap.size, 1, none⟩ = some (.int .i64 len) := Br2.cell 1 _ rfl
        have c2 : w2.cell? ⟨w.heap.size, 2, none⟩ = some (.int .u32 m) := Br2.cell 2 _ rfl
        go_wp2_with fail
        refine (rpointer_any _ _ _ _ _ M0.out M1.out (by omega) (by omega)).mono ?_
        rintro e w3 ⟨rfl, hb3⟩
        have hown3 := own_keep hown2 hb3
        have hbr3 := keep_below hb3 hbr2
        have hs3 := hbr3.size
        clear c0 c1 c2 hb3 hown2 hbr2 Br2
        have hsc := plH_succ k len m j
        by_cases hp : ptrH k len m j = true
        · rw [if_pos hp] at hsc
          have HC := Lib.hid hsc
          clear hsc
          go_wp2_with (at_builtin; refine wpList_app rfl _ _ _ rfl tyInts rfl (hown3.alloc _) rfl (Reads.fresh _ _ _ 1 1 rfl (by decide)) (by simp [Value.oneCell']) ?c1 ?c2 ?c3 ?_)
          case c1 => unfold maxLen; omega
          case c2 => omega
          case c3 => first | omega | (simp; omega)
          intro v' w4 hown' hb'
          go_wp2
          go_roundw
          case rel =>
            refine ⟨j + 1, by omega, by go_num, ?_, ?_⟩
            · rw [HC.out, List.flatMap_append, List.length_append]; exact hown'
            · exact (hbr3.alloc hs3 _).trans hb'
          case measure => simp [intOf]; omega
        · rw [if_neg hp, List.append_nil] at hsc
          simp only [Bool.not_eq_true] at hp
          have HC := Lib.hid hsc
          clear hsc
          go_wp2_with fail
          go_roundw
          case rel =>
            refine ⟨j + 1, by omega, by go_num, ?_, hbr3⟩
            rw [HC.out]; exact hown3
          case measure => simp [intOf]; omega
      · have hlt' : ¬ (j : Int) < len := by omega
        have hjs : j = len.toNat := by omega
        obtain ⟨A', c', rfl, hr⟩ := Reads.own hown
        rw [hjs] at hr
        have hA : (plH k len m j).length = (plH k len m len.toNat).length := by rw [hjs]
        have HA := Lib.hid hA
        clear hjs hA
        go_wp2_with fail
        go_ret
        exact ⟨A', c', by rw [← HA.out]; rfl, hr, keep_below hbr hB⟩
  · simp only [Bool.not_eq_true] at hv
    have hnil := plH_bad k len m hv len.toNat
    have HN := Lib.hid hnil
    clear hnil
    by_cases hl : 0 < len
    · go_enter Try.func20, Try.ntmps20
      go_wp2_with fail
      refine wp_loop_rounds 1 ?_
      rw [rounds_succ]
      go_wp2_with fail
      refine (rvalid_any _ _ _ _ M0.out M1.out).mono ?_
      rintro e w2 ⟨rfl, hb2⟩
      go_wp2_with fail
      go_ret
      rw [HN.out]
      exact ⟨none, 0, rfl, Reads.nil, by repeat (first | exact Below.refl _ _ | assumption | refine keep_alloc ?_ _ | refine keep_below (by assumption) ?_)⟩
    · go_enter Try.func20, Try.ntmps20
      go_wp2_with fail
      refine wp_loop_rounds 1 ?_
      rw [rounds_succ]
      go_wp2_with fail
      go_ret
      rw [HN.out]
      exact ⟨none, 0, rfl, Reads.nil, by repeat (first | exact Below.refl _ _ | assumption | refine keep_alloc ?_ _ | refine keep_below (by assumption) ?_)⟩

theorem sameInts_any (A A' : Option Addr) (n n' c c' : Nat) (l l' : List Int) (w : World) (h : Reads w w.heap.size 1 A n c (l.flatMap intCells)) (h' : Reads w w.heap.size 1 A' n' c' (l'.flatMap intCells)) :
    Calls Try.prog 19 #[.slice A n c, .slice A' n' c'] w fun e w' => e = .returned (.bool (decide (l = l'))) ∧ ∃ m, w' = w.drewN m := by
  have hlen := h.length (fun _ => rfl) (by omega)
  have hcap := h.cap
  have hle := h.le
  have hlen' := h'.length (fun _ => rfl) (by omega)
  have hcap' := h'.cap
  have hle' := h'.le
  unfold maxLen at hcap hcap'
  by_cases hn : n = n'
  · subst hn
    have HL := Lib.hid hlen
    have HL' := Lib.hid hlen'
    clear hlen hlen'
    go_enter Try.func19, Try.ntmps19
    go_wp2_with fail
    go_loopw [5] (fun i wr => ∃ k m : Nat, k ≤ n ∧ i = .int .i64 k ∧ wr = w.drewN m ∧ (l = l' ↔ l.drop k = l'.drop k)) (fun i _ => n - (intOf i).toNat)
    case atStart => exact ⟨0, 0, Nat.zero_le _, rfl, rfl, Iff.rfl⟩
    case round =>
      obtain ⟨k, m, hk, rfl, rfl, hspec⟩ := hrel
      by_cases hlt : k < n
      · obtain ⟨b, off, a, rfl, hbb, ha, hc⟩ := h.elem (fun _ => rfl) (by omega) hlt
        have c0 := hc 0 _ rfl
        rw [Nat.mul_one, Nat.add_zero] at c0
        obtain ⟨b', off', a', rfl, hbb', ha', hc'⟩ := h'.elem (fun _ => rfl) (by omega) hlt
        have c0' := hc' 0 _ rfl
        rw [Nat.mul_one, Nat.add_zero] at c0'
        rw [drop_at ha, drop_at ha'] at hspec
        have H := Lib.hid hspec
        clear hspec ha hc ha' hc'
        have hk0 : (0 : Int) ≤ (k : Int) := by omega
        have hk1 : (k : Int) < (n : Int) := by omega
        by_cases he : a = a'
        · have he' : (a != a') = false := by simp [he]
          have HE := Lib.hid he
          clear he
          go_wp2_with fail
          go_quiet (fail)
          go_wp2
          go_roundw
          case rel => exact ⟨k + 1, _, by omega, by go_num, rfl, by rw [H.out, HE.out]; simp⟩
          case measure => simp [intOf]; omega
        · have he' : (a != a') = true := by simp [he]
          have HE := Lib.hid he
          clear he
          go_wp2_with fail
          go_quiet (fail)
          go_wp2
          go_ret
          exact ⟨ret_b (by rw [eq_comm, decide_eq_false_iff_not, H.out]; simp [HE.out]), _, World.drewN_drewN _ _ _⟩
      · have hend := drop_end HL.out hlt
        have hend' := drop_end HL'.out hlt
        rw [hend, hend'] at hspec
        have H := Lib.hid (hspec.2 rfl)
        clear hspec hend hend'
        go_wp2_with fail
        go_ret
        exact ⟨ret_b (by rw [eq_comm, decide_eq_true_eq]; exact H.out), _, rfl⟩
  · have hll : ¬ l = l' := fun e => hn (by rw [← hlen, ← hlen', e])
    have HLL := Lib.hid hll
    have hn1 : ((n : Int) != (n' : Int)) = true := by simp; omega
    clear hll hlen hlen'
    go_enter Try.func19, Try.ntmps19
    go_wp2_with fail
    go_ret
    exact ⟨ret_b (by simp [HLL.out]), 0, rfl⟩
end Go.Proofs.Ytcnlfokgofmnkaa

/- The contracts of the references' proper, Unpack and Pack, of Same and of the laws' fields. -/
import Derived.Test.YtcjmaodfeokbaaaUnpack
import Derived.Test.YtcjmaodfeokbaaaGet
namespace Go.Proofs.Ytcjmaodfeokbaaa
open Go.RowKit Words

attribute [local go_sem ↓] Words.bits_and Words.bits_or Words.bits_andNot Words.shr_any Words.shl_any Words.wrap_U Words.shr_U Words.shl_U

theorem proper_any (A : Option Addr) (n c : Nat) (l : List Int) (w : World) (h : Reads w w.heap.size 1 A n c (l.flatMap intCells)) :
    Calls Try.prog 23 #[.slice A n c] w fun e w' => e = .returned (.bool (unOk l 64)) ∧ w = w' := by
  have hlen := h.length (fun _ => rfl) (by omega)
  have hcap := h.cap
  have hle := h.le
  unfold maxLen at hcap
  go_enter Try.func23, Try.ntmps23
  go_wp2_with fail
  go_loop [3, 4] (fun x i => ∃ (k : Nat) (sum : Int), k ≤ n ∧ i = .int .i64 k ∧ x = .int .i64 sum ∧ 0 ≤ sum ∧ sum ≤ 64 ∧ unOk l 64 = unOk (l.drop k) (64 - sum)) (fun _ i => n - (intOf i).toNat)
  case atStart => exact ⟨0, 0, Nat.zero_le _, rfl, rfl, by omega, by omega, rfl⟩
  case round =>
    obtain ⟨k, sum, hk, rfl, rfl, hl0, hl1, hspec⟩ := hrel
    by_cases hlt : k < n
    · obtain ⟨b, off, a, rfl, hbb, ha, hc⟩ := h.elem (fun _ => rfl) (by omega) hlt
      have c0 := hc 0 _ rfl
      rw [Nat.mul_one, Nat.add_zero] at c0
      rw [drop_at ha, unOk] at hspec
      have H := Lib.hid hspec
      have HL := Lib.hid hlen
      clear hspec ha hlen hc
      by_cases t0 : a < 1
      · go_wp2
        go_ret
        exact ⟨ret_b (by rw [H.out]; simp [t0]), rfl⟩
      · by_cases t1 : 64 - sum < a
        · go_wp2
          go_ret
          exact ⟨ret_b (by rw [H.out]; simp [t1]), rfl⟩
        · go_wp2
          go_round
          case rel => exact ⟨k + 1, sum + a, by omega, by go_num, rfl, by omega, by omega, by rw [H.out, show 64 - (sum + a) = 64 - sum - a by omega]; simp [t0, t1]⟩
          case measure => simp [intOf]; omega
    · have hend := drop_end hlen hlt
      rw [hend, unOk] at hspec
      have H := Lib.hid hspec
      clear hspec hend
      go_wp2
      go_ret
      exact ⟨ret_b H.out.symm, rfl⟩

theorem runpack_any (x : BitVec 64) (A : Option Addr) (n c : Nat) (l : List Int) (w : World) (h : Reads w w.heap.size 1 A n c (l.flatMap intCells)) :
    Calls Try.prog 20 #[.int .u64 (U x), .slice A n c] w (RetWs w (unpack x l)) := by
  have hlen := h.length (fun _ => rfl) (by omega)
  have hcap := h.cap
  have hle := h.le
  unfold maxLen at hcap
  by_cases hs : unOk l 64 = true
  · have h64 := unOk_len l 64 hs (by omega)
    rw [hlen] at h64
    have HL := Lib.hid hlen
    have HS := Lib.hid hs
    clear hlen
    go_enter Try.func20, Try.ntmps20
    go_wp2_with (go_at_call 23; refine (proper_any _ _ _ _ _ h).mono ?_; rintro e w' ⟨rfl, rfl⟩)
    go_loopw [6, 7, 8] (fun v y i wr => ∃ (k : Nat) (s : Nat) (acc : List (BitVec 64)), k ≤ n ∧ i = .int .i64 k ∧ y = .int .i64 s ∧ s ≤ 64 ∧ acc.length = k ∧ wr.ownsRow w.heap.size 23 1 v k (acc.flatMap wordCells) ∧ Below w.heap.size w wr ∧
        unOk (l.drop k) (64 - s) = true ∧ unGo l x = (acc ++ (unGo (l.drop k) (x >>> s)).1, (unGo (l.drop k) (x >>> s)).2)) (fun _ _ i _ => n - (intOf i).toNat)
    case atStart => exact ⟨0, 0, [], Nat.zero_le _, rfl, rfl, by omega, rfl, World.ownsRow_nil _ _ _ _, Below.refl _ _, HS.out, by simp⟩
    case round =>
      obtain ⟨k, s, acc, hk, rfl, rfl, hs64, hacc, hown, hb, hok, hspec⟩ := hrel
      have hsz := hb.size
      by_cases hlt : k < n
      · obtain ⟨b, off, a, rfl, hbb, ha, hc⟩ := (h.below hb).elem (fun _ => rfl) (by omega) hlt
        have c0 := hc 0 _ rfl
        rw [Nat.mul_one, Nat.add_zero] at c0
        rw [drop_at ha, unOk] at hok
        rw [drop_at ha, unGo] at hspec
        simp only [Bool.and_eq_true, Bool.not_eq_true', decide_eq_false_iff_not] at hok
        obtain ⟨⟨t0, t1⟩, hok⟩ := hok
        have ha0 : 0 ≤ a := by omega
        have H := Lib.hid hspec
        have HA := Lib.hid hacc
        clear hspec ha hc hacc
        go_wp2_with (first
          | (go_at_call 11; refine (rones_any _ _).mono ?_; rintro e w' ⟨rfl, rfl⟩)
          | (at_builtin; refine wpList_app rfl _ _ _ rfl tyWords rfl (hown.alloc _) rfl (Reads.fresh _ _ _ 1 1 rfl (by decide)) (by simp [Value.oneCell']) ?c1 ?c2 ?c3 ?_))
        case c1 => unfold maxLen; omega
        case c2 => omega
        case c3 => first | omega | (simp; omega)
        intro v' w1 hown' hb'
        have c1 := hb'.cell (p := ⟨b, off + k, none⟩) (by exact hbb)
        rw [World.cell?_alloc_lt _ _ _ (by show b < _; omega), c0] at c1
        go_wp2
        go_roundw
        case rel =>
          refine ⟨k + 1, s + a.toNat, acc ++ [(x >>> s) &&& ones a.toNat], by omega, by go_num, ?_, by omega, by rw [List.length_append, HA.out]; rfl, ?_, ?_, ?_, ?_⟩
          · rw [show ((s + a.toNat : Nat) : Int) = (s : Int) + a by omega]
          · rw [List.flatMap_append]; exact hown'
          · exact (hb.alloc hsz _).trans hb'
          · rw [show 64 - ((s + a.toNat : Nat) : Int) = 64 - (s : Int) - a by omega]; exact hok
          · rw [H.out, BitVec.shiftRight_add]; simp
        case measure => simp [intOf]; omega
      · have hend := drop_end HL.out hlt
        rw [hend, unGo] at hspec
        have H := Lib.hid hspec
        have hkn : k = n := by omega
        subst hkn
        clear hspec hend hok
        obtain ⟨A', c', rfl, hr⟩ := Reads.own hown
        have hz0 := zero_iff x s
        by_cases hz : x >>> s = 0#64
        · have hz' : (U (x &&& ~~~ones s) != 0) = false := by
            have := U_ne (x &&& ~~~ones s) 0#64
            rw [show U 0#64 = 0 from rfl] at this
            rw [this]; simp [bne, hz0, hz]
          have HZ := Lib.hid hz
          clear hz hz0
          go_wp2_with (go_at_call 11; refine (rones_any _ _).mono ?_; rintro e w' ⟨rfl, rfl⟩)
          go_ret2
          have e1 : unpack x l = (acc, 0) := by unfold unpack; rw [if_pos HS.out, H.out, HZ.out]; simp
          rw [e1]
          exact ⟨A', c', by rw [hacc]; rfl, by rw [hacc]; exact hr, hb⟩
        · have hz' : (U (x &&& ~~~ones s) != 0) = true := by
            have := U_ne (x &&& ~~~ones s) 0#64
            rw [show U 0#64 = 0 from rfl] at this
            rw [this]; simp [bne, hz0, hz]
          have HZ := Lib.hid hz
          clear hz hz0
          go_wp2_with (go_at_call 11; refine (rones_any _ _).mono ?_; rintro e w' ⟨rfl, rfl⟩)
          go_ret2
          have e1 : unpack x l = ([], 2) := by unfold unpack; rw [if_pos HS.out, H.out]; simp [HZ.out]
          rw [e1]
          exact ⟨none, 0, rfl, Reads.nil, hb⟩
  · have e1 : unpack x l = ([], 1) := by unfold unpack; rw [if_neg hs]
    simp only [Bool.not_eq_true] at hs
    rw [e1]
    go_enter Try.func20, Try.ntmps20
    go_wp2_with (go_at_call 23; refine (proper_any _ _ _ _ _ h).mono ?_; rintro e w' ⟨rfl, rfl⟩)
    go_ret2
    exact ⟨none, 0, rfl, Reads.nil, Below.refl _ _⟩

theorem same_any (A A' : Option Addr) (n n' c c' : Nat) (l l' : List (BitVec 64)) (w : World) (h : Reads w w.heap.size 1 A n c (l.flatMap wordCells)) (h' : Reads w w.heap.size 1 A' n' c' (l'.flatMap wordCells)) :
    Calls Try.prog 21 #[.slice A n c, .slice A' n' c'] w fun e w' => e = .returned (.bool (decide (l = l'))) ∧ ∃ m, w' = w.drewN m := by
  have hlen := h.length (fun _ => rfl) (by omega)
  have hcap := h.cap
  have hle := h.le
  have hlen' := h'.length (fun _ => rfl) (by omega)
  have hcap' := h'.cap
  have hle' := h'.le
  unfold maxLen at hcap hcap'
  by_cases hn : n = n'
  · subst hn
    have HL := Lib.hid hlen
    have HL' := Lib.hid hlen'
    clear hlen hlen'
    go_enter Try.func21, Try.ntmps21
    go_wp2_with fail
    go_loopw [5] (fun i wr => ∃ k m : Nat, k ≤ n ∧ i = .int .i64 k ∧ wr = w.drewN m ∧ (l = l' ↔ l.drop k = l'.drop k)) (fun i _ => n - (intOf i).toNat)
    case atStart => exact ⟨0, 0, Nat.zero_le _, rfl, rfl, Iff.rfl⟩
    case round =>
      obtain ⟨k, m, hk, rfl, rfl, hspec⟩ := hrel
      by_cases hlt : k < n
      · obtain ⟨b, off, a, rfl, hbb, ha, hc⟩ := h.elem (fun _ => rfl) (by omega) hlt
        have c0 := hc 0 _ rfl
        rw [Nat.mul_one, Nat.add_zero] at c0
        obtain ⟨b', off', a', rfl, hbb', ha', hc'⟩ := h'.elem (fun _ => rfl) (by omega) hlt
        have c0' := hc' 0 _ rfl
        rw [Nat.mul_one, Nat.add_zero] at c0'
        rw [drop_at ha, drop_at ha'] at hspec
        have H := Lib.hid hspec
        clear hspec ha hc ha' hc'
        have hk0 : (0 : Int) ≤ (k : Int) := by omega
        have hk1 : (k : Int) < (n : Int) := by omega
        by_cases he : a = a'
        · have he' : (U a != U a') = false := by rw [U_ne]; simp [he]
          have HE := Lib.hid he
          clear he
          go_wp2_with fail
          go_quiet (fail)
          go_wp2
          go_roundw
          case rel => exact ⟨k + 1, _, by omega, by go_num, rfl, by rw [H.out, HE.out]; simp⟩
          case measure => simp [intOf]; omega
        · have he' : (U a != U a') = true := by rw [U_ne]; simp [he]
          have HE := Lib.hid he
          clear he
          go_wp2_with fail
          go_quiet (fail)
          go_wp2
          go_ret
          exact ⟨ret_b (by rw [eq_comm, decide_eq_false_iff_not, H.out]; simp [HE.out]), _, World.drewN_drewN _ _ _⟩
      · have hend := drop_end HL.out hlt
        have hend' := drop_end HL'.out hlt
        rw [hend, hend'] at hspec
        have H := Lib.hid (hspec.2 rfl)
        clear hspec hend hend'
        go_wp2_with fail
        go_ret
        exact ⟨ret_b (by rw [eq_comm, decide_eq_true_eq]; exact H.out), _, rfl⟩
  · have hll : ¬ l = l' := fun e => hn (by rw [← hlen, ← hlen', e])
    have HLL := Lib.hid hll
    have hn1 : ((n : Int) != (n' : Int)) = true := by simp; omega
    clear hll hlen hlen'
    go_enter Try.func21, Try.ntmps21
    go_wp2_with fail
    go_ret
    exact ⟨ret_b (by simp [HLL.out]), 0, rfl⟩
/-- the second loop's test in the reference's words -/
theorem fitsU (x : BitVec 64) (n : Nat) : (U (x &&& ones n) != U x) = !(x &&& ~~~ones n == 0#64) := by
  rw [U_ne, bne]
  congr 1
  rw [Bool.eq_iff_iff, beq_iff_eq, beq_iff_eq]
  exact (fits_iff x (ones n)).symm

theorem rpack_any (A : Option Addr) (n c : Nat) (l : List (Int × BitVec 64)) (w : World) (h : Reads w w.heap.size 2 A n c (l.flatMap fieldCells)) (hsmall : n ≤ 1000000) :
    Calls Try.prog 14 #[.slice A n c] w fun e w' => e = retW (pack l) ∧ Below w.heap.size w w' := by
  have hlen := h.length (fun _ => rfl) (by omega)
  have hcap := h.cap
  have hle := h.le
  unfold maxLen at hcap
  have HL := Lib.hid hlen
  clear hlen
  go_enter Try.func14, Try.ntmps14
  go_wp2_with fail
  go_loopw [4, 5] (fun v i wr => ∃ (k : Nat) (acc : List Int), k ≤ n ∧ i = .int .i64 k ∧ acc.length = k ∧ wr.ownsRow w.heap.size 3 1 v k (acc.flatMap intCells) ∧ Below w.heap.size w wr ∧ l.map (·.1) = acc ++ (l.drop k).map (·.1)) (fun _ i _ => n - (intOf i).toNat)
  case atStart => exact ⟨0, [], Nat.zero_le _, rfl, rfl, World.ownsRow_nil _ _ _ _, Below.refl _ _, rfl⟩
  case round =>
    obtain ⟨k, acc, hk, rfl, hacc, hown, hb, hspec⟩ := hrel
    have hsz := hb.size
    by_cases hlt : k < n
    · obtain ⟨b, off, a, rfl, hbb, ha, hc⟩ := (h.below hb).elem (fun _ => rfl) (by omega) hlt
      have c0 := hc 0 _ rfl
      rw [Nat.add_zero] at c0
      rw [drop_at ha] at hspec
      have H := Lib.hid hspec
      have HA := Lib.hid hacc
      clear hspec ha hc hacc
      go_wp2_with (at_builtin; refine wpList_app rfl _ _ _ rfl tyInts rfl (hown.alloc _) rfl (Reads.fresh _ _ _ 1 1 rfl (by decide)) (by simp [Value.oneCell']) ?c1 ?c2 ?c3 ?_)
      case c1 => unfold maxLen; omega
      case c2 => omega
      case c3 => first | omega | (simp; omega)
      intro v' w1 hown' hb'
      go_wp2
      go_roundw
      case rel =>
        refine ⟨k + 1, acc ++ [a.1], by omega, by go_num, by rw [List.length_append, HA.out]; rfl, ?_, ?_, ?_⟩
        · rw [List.flatMap_append]; exact hown'
        · exact (hb.alloc hsz _).trans hb'
        · rw [H.out]; simp
      case measure => simp [intOf]; omega
    · have hend := drop_end HL.out hlt
      rw [hend] at hspec
      simp only [List.map_nil, List.append_nil] at hspec
      have hkn : k = n := by omega
      subst hkn
      obtain ⟨A', c', rfl, hr⟩ := Reads.own hown
      rw [← hspec] at hr
      have hok := wOk_map l 64
      clear hspec hend hacc hown acc
      have HO := Lib.hid hok
      clear hok
      by_cases hs : wOk l 64 = true
      · have hs' : unOk (l.map (·.1)) 64 = true := by rw [← HO.out]; exact hs
        have HS := Lib.hid hs
        clear hs
        go_wp2_with (go_at_call 23; refine (proper_any _ _ _ _ _ hr).mono ?_; rintro e w' ⟨rfl, rfl⟩)
        clear hr hs'
        go_loopw [6, 7, 8] (fun x y i wq => ∃ (k' : Nat) (v : BitVec 64) (at_ : Int), k' ≤ k ∧ i = .int .i64 k' ∧ x = .int .u64 (U v) ∧ y = .int .i64 at_ ∧ 0 ≤ at_ ∧ at_ ≤ 64 ∧ Below w.heap.size w wq ∧ wOk (l.drop k') (64 - at_) = true ∧ packGo l 0#64 0 = packGo (l.drop k') v at_) (fun _ _ i _ => k - (intOf i).toNat)
        case atStart => exact ⟨0, 0#64, 0, Nat.zero_le _, rfl, rfl, rfl, by omega, by omega, hb, HS.out, rfl⟩
        case round =>
          rename_i wq
          obtain ⟨k', v, i, hk', rfl, rfl, rfl, hi0, hi1, hb, hok, hspec⟩ := hrel
          by_cases hlt : k' < k
          · obtain ⟨b, off, a, rfl, hbb, ha, hc⟩ := (h.below hb).elem (fun _ => rfl) (by omega) hlt
            have c0 := hc 0 _ rfl
            have c1 := hc 1 _ rfl
            rw [Nat.add_zero] at c0
            rw [drop_at ha, wOk] at hok
            rw [drop_at ha, packGo] at hspec
            simp only [Bool.and_eq_true, Bool.not_eq_true', decide_eq_false_iff_not] at hok
            obtain ⟨⟨t0, t1⟩, hok⟩ := hok
            have hok' : wOk (l.drop (k' + 1)) (64 - (i + a.1)) = true := by rw [show 64 - (i + a.1) = 64 - i - a.1 by omega]; exact hok
            have H := Lib.hid hspec
            have HOK := Lib.hid hok'
            clear hspec ha hc hok hok'
            have hk0 : (0 : Int) ≤ (k' : Int) := by omega
            have hk1 : (k' : Int) < (k : Int) := by omega
            by_cases hf : (a.2 &&& ~~~ones a.1.toNat == 0#64) = true
            · have hf' : (U (a.2 &&& ones a.1.toNat) != U a.2) = false := by rw [fitsU, hf]; rfl
              have HF := Lib.hid hf
              clear hf
              go_wp2_with fail
              go_quiet ((go_at_call 11; exact quiet_l (rones_any _ _)))
              go_wp2
              go_roundw
              case rel => exact ⟨k' + 1, _, i + a.1, by omega, by go_num, rfl, rfl, by omega, by omega, below_drewN hb _, HOK.out, by rw [H.out, if_pos HF.out]⟩
              case measure => simp [intOf]; omega
            · have hf' : (U (a.2 &&& ones a.1.toNat) != U a.2) = true := by rw [fitsU]; simp [hf]
              have HF := Lib.hid hf
              clear hf
              go_wp2_with fail
              go_quiet ((go_at_call 11; exact quiet_l (rones_any _ _)))
              go_wp2
              go_ret2
              exact ⟨by unfold retW pack; rw [if_pos HS.out, H.out, if_neg HF.out]; rfl, below_drewN hb _⟩
          · have hend := drop_end HL.out hlt
            rw [hend, packGo] at hspec
            have H := Lib.hid hspec
            clear hspec hend hok
            go_wp2_with fail
            go_ret2
            exact ⟨by unfold retW pack; rw [if_pos HS.out, H.out]; rfl, hb⟩
      · simp only [Bool.not_eq_true] at hs
        have hs' : unOk (l.map (·.1)) 64 = false := by rw [← HO.out]; exact hs
        have HS := Lib.hid hs
        clear hs
        go_wp2_with (go_at_call 23; refine (proper_any _ _ _ _ _ hr).mono ?_; rintro e w' ⟨rfl, rfl⟩)
        go_ret2
        exact ⟨by unfold retW pack; rw [HS.out]; rfl, hb⟩
end Go.Proofs.Ytcjmaodfeokbaaa

/- The plain law of decoding a native program, and the contract of ncode.Decode. -/
import Derived.Test.YtpmdgmgcbminaaaNcode2
import Derived.Test.YtpmdgmgcbminaaaUnpack
import Derived.Test.YtpmdgmgcbminaaaApp
import Derived.Deep.RegionHeld3
namespace Go.Proofs.Ytpmdgmgcbminaaa
open Go.RowKit Words

/-- the instruction of two words -/
def insOf (w k : BitVec 64) : NI := ⟨U w % 256, U w / 256 % 16, U w / 4096 % 256, U w / 1048576, k⟩
def decGo : List (BitVec 64) → Option (List NI)
  | w :: k :: r => if U w < 16777216 then (decGo r).map (insOf w k :: ·) else none
  | _ => some []
/-- the program of words: its number of arguments, its instructions, the error -/
def decC (l : List (BitVec 64)) : Int × List NI × Int :=
  match l with
  | [] => (0, [], 21)
  | g :: r => if l.length % 2 = 1 ∧ U g ≤ 3 then (match decGo r with
    | some is => if formedC (U g) is = true then (U g, is, 0) else (0, [], 21)
    | none => (0, [], 21)) else (0, [], 21)
theorem unpack_ins (w : BitVec 64) : unpack w [8, 4, 8, 4] = if U w < 16777216 then ([w &&& ones 8, (w >>> 8) &&& ones 4, (w >>> 12) &&& ones 8, (w >>> 20) &&& ones 4], 0) else ([], 2) := by
  have h1 : unOk [8, 4, 8, 4] 64 = true := by decide
  have e2 : w >>> 8 >>> 4 = w >>> 12 := by rw [← BitVec.shiftRight_add]
  have e3 : w >>> 12 >>> 8 = w >>> 20 := by rw [← BitVec.shiftRight_add]
  have e4 : w >>> 20 >>> 4 = w >>> 24 := by rw [← BitVec.shiftRight_add]
  have hz : (w >>> 24 == 0#64) = decide (U w < 16777216) := by
    rw [← zero_iff, fits_lt _ _ (by decide)]
    rfl
  unfold unpack
  rw [if_pos h1]
  simp only [unGo, show (8 : Int).toNat = 8 from rfl, show (4 : Int).toNat = 4 from rfl, e2, e3, e4, hz, decide_eq_true_eq]
theorem U_ins (w : BitVec 64) (h : U w < 16777216) : U (w &&& ones 8) = U w % 256 ∧ U ((w >>> 8) &&& ones 4) = U w / 256 % 16 ∧ U ((w >>> 12) &&& ones 8) = U w / 4096 % 256 ∧ U ((w >>> 20) &&& ones 4) = U w / 1048576 := by
  have h0 := U_nonneg w
  refine ⟨?_, ?_, ?_, ?_⟩
  · rw [U_and_ones _ 8 (by omega)]; rfl
  · rw [U_and_ones _ 4 (by omega), U_shr]; rfl
  · rw [U_and_ones _ 8 (by omega), U_shr]; rfl
  · rw [U_and_ones _ 4 (by omega), U_shr]
    show U w / 1048576 % 16 = _
    omega
/-- a cell that does not stand in a block lies elsewhere -/
theorem Blk.ne {w : World} {g : Nat} {t : TypeId} {cs : Array Value} (hb : Blk w g t cs) {b o : Nat} {u : Value} (h : w.cell? ⟨b, o, none⟩ = some u) (hu : u ∉ cs.toList) : b ≠ g := by
  rintro rfl
  rw [cell_of_row w b o cs t (0, 0) hb] at h
  exact hu (by have := Array.mem_of_getElem? h; simpa using this)

/-- a program and an error code come back -/
def RetCodeE (w : World) (r : Int × List NI × Int) (e : Ending) (w' : World) : Prop :=
  ∃ A c, e = .returned (.tuple #[codeV r.1 A r.2.1.length c, .int .i64 r.2.2]) ∧ Reads w' w'.heap.size 5 A r.2.1.length c (r.2.1.flatMap insCells) ∧ Below w.heap.size w w'

set_option linter.unusedSimpArgs false in
set_option maxRecDepth 100000 in
set_option maxHeartbeats 2000000 in
theorem decode_any (A : Option Addr) (n c : Nat) (l : List (BitVec 64)) (w : World) (h : Reads w w.heap.size 1 A n c (l.flatMap wordCells)) (hn : n ≤ 1000000) :
    Calls Try.prog 17 #[.slice A n c] w (RetCodeE w (decC l)) := by
  have hlen := h.length (fun _ => rfl) (by omega)
  have HN := Lib.hid hn
  have hW : Below w.heap.size w (w.alloc (.cells #[.int .i64 0, .slice none 0 0] 37)) := code_alloc w _ 0 none 0 0
  have R0 := Blk.new w #[.int .i64 0, .slice none 0 0] 37
  have r0 : (w.alloc (.cells #[.int .i64 0, .slice none 0 0] 37)).cell? ⟨w.heap.size, 0, none⟩ = some (.int .i64 0) := R0.cell 0 _ rfl
  have r1 : (w.alloc (.cells #[.int .i64 0, .slice none 0 0] 37)).cell? ⟨w.heap.size, 1, none⟩ = some (.slice none 0 0) := R0.cell 1 _ rfl
  have fr := R0.free
  by_cases hodd : n % 2 = 1
  · obtain ⟨b, off, g, rfl, hbb, hg, hc⟩ := h.elem (fun _ => rfl) (by omega) (k := 0) (show 0 < n by omega)
    have d0 := hc 0 _ rfl
    rw [Nat.zero_mul, Nat.add_zero] at d0
    obtain ⟨r, rfl⟩ : ∃ r, l = g :: r := by
      cases l with
      | nil => simp at hg
      | cons a r => simp at hg; subst hg; exact ⟨r, rfl⟩
    clear hg hc
    by_cases hg3 : U g ≤ 3
    · have hne : ((n : Int) % 2 != 1) = false := by simp; omega
      have hd : decide ((3 : Int) < U g) = false := by simp; omega
      have hp : 0 < n := by omega
      have hg0 := U_nonneg g
      have wg : IntKind.i64.wrap (U g) = U g := IntWalk.i64_in _ (by omega)
      have hB0 := keep_alloc hW (.cells #[.int .i64 (U g), .slice none 0 0] 37)
      have R1 := R0.alloc (.cells #[.int .i64 (U g), .slice none 0 0] 37)
      have C1 := Blk.newAt (w.alloc (.cells #[.int .i64 0, .slice none 0 0] 37)) #[.int .i64 (U g), .slice none 0 0] 37 (w.heap.size + 1) (by simp)
      have hdec : decC (g :: r) = (match decGo r with | some is => if formedC (U g) is = true then (U g, is, 0) else (0, [], 21) | none => (0, [], 21)) := by unfold decC; dsimp only; rw [if_pos ⟨by rw [hlen]; exact hodd, hg3⟩]
      have HD := Lib.hid hdec
      have HL := Lib.hid hlen
      have HG := Lib.hid hg3
      have d0a : (w.alloc (.cells #[.int .i64 0, .slice none 0 0] 37)).cell? ⟨b, off, none⟩ = some (.int .u64 (U g)) := keep_cell hW d0
      clear hdec hlen hg3
      go_enter Try.func17, Try.ntmps17
      go_wp2_with fail
      obtain ⟨w1, hw1⟩ : ∃ w1, ((w.alloc (.cells #[.int .i64 0, .slice none 0 0] 37)).alloc (.cells #[.int .i64 (U g), .slice none 0 0] 37)) = w1 := ⟨_, rfl⟩
      have hs1 : w1.heap.size = w.heap.size + 2 := by rw [← hw1]; simp
      have HS1 := Lib.hid hs1
      rw [hw1] at hB0 R1 C1 ⊢
      have h1 := h.below hB0
      clear hw1 hs1 d0 d0a r0 r1 fr R0 wg hd
      go_loopw [5] (fun x wq => ∃ (k : Nat) (acc : List NI) (A' : Option Addr) (c' : Nat), 2 * k + 1 ≤ n ∧ x = .int .i64 ((2 * k + 1 : Nat) : Int) ∧ acc.length = k ∧ wq.ownsRow (w.heap.size + 2) 60 5 (.slice A' k c') k (acc.flatMap insCells) ∧ Blk wq (w.heap.size + 1) 37 #[.int .i64 (U g), .slice A' k c'] ∧ Below (w.heap.size + 1) w1 wq ∧ decGo r = (decGo (r.drop (2 * k))).map (acc ++ ·)) (fun x _ => n + 1 - (intOf x).toNat)
      case atStart => exact ⟨0, [], none, 0, by omega, rfl, rfl, World.ownsRow_nil _ _ _ _, C1, Below.refl _ _, by simp⟩
      case round =>
        obtain ⟨k, acc, A', c', hk, rfl, hacc, hown, C, hb, hspec⟩ := hrel
        have hsz := hb.size
        rw [HS1.out] at hsz
        have R := R1.belowB hb (by omega)
        have hBr := hB0.trans (hb.mono (show w.heap.size ≤ w.heap.size + 1 by omega))
        obtain ⟨j, hj⟩ : ∃ j, 2 * k + 1 = j := ⟨_, rfl⟩
        rw [hj] at hk ⊢
        by_cases hlt : j < n
        · have hj1 : j + 1 < n := by omega
          obtain ⟨b1, off1, x, he1, hbb1, hx, hc1⟩ := (h1.below (hb.mono (by omega))).elem (fun _ => rfl) (by omega) hlt
          obtain ⟨b2, off2, K, he2, hbb2, hK, hc2⟩ := (h1.below (hb.mono (by omega))).elem (fun _ => rfl) (by omega) hj1
          simp only [Option.some.injEq, Addr.mk.injEq, and_true] at he1 he2
          obtain ⟨rfl, rfl⟩ := he1
          obtain ⟨rfl, rfl⟩ := he2
          have e0 := hc1 0 _ rfl
          have e1 := hc2 0 _ rfl
          rw [Nat.mul_one, Nat.add_zero] at e0 e1
          have hx' : r[2 * k]? = some x := by rw [← hj, List.getElem?_cons_succ] at hx; exact hx
          have hK' : r[2 * k + 1]? = some K := by rw [← hj, show 2 * k + 1 + 1 = (2 * k + 1) + 1 from rfl, List.getElem?_cons_succ] at hK; exact hK
          rw [drop_at hx', drop_at hK', decGo] at hspec
          have hk0 : (0 : Int) ≤ (j : Int) := by omega
          have hk1 : (j : Int) < (n : Int) := by omega
          have hk2 : (j : Int) + 1 < (n : Int) := by omega
          have hfr := Reads.freshAs wr #[.int .i64 8, .int .i64 4, .int .i64 8, .int .i64 4] 3 1 4 (([8, 4, 8, 4] : List Int).flatMap intCells) rfl rfl (by decide)
          have hu := unpack_ins x
          have hbA := hb.alloc (by omega) (.cells #[.int .i64 8, .int .i64 4, .int .i64 8, .int .i64 4] 3)
          have hownA := hown.alloc (.cells #[.int .i64 8, .int .i64 4, .int .i64 8, .int .i64 4] 3)
          have CA := C.alloc (.cells #[.int .i64 8, .int .i64 4, .int .i64 8, .int .i64 4] 3)
          have RA := R.alloc (.cells #[.int .i64 8, .int .i64 4, .int .i64 8, .int .i64 4] 3)
          have e1a : (wr.alloc (.cells #[.int .i64 8, .int .i64 4, .int .i64 8, .int .i64 4] 3)).cell? ⟨b, off + (j + 1), none⟩ = some (.int .u64 (U K)) := keep_cell (keep_alloc (Below.refl _ _) _) e1
          by_cases h24 : U x < 16777216
          · obtain ⟨u0, u1, u2, u3⟩ := U_ins x h24
            rw [if_pos h24] at hu hspec
            have hins : insOf x K = ⟨U (x &&& ones 8), U ((x >>> 8) &&& ones 4), U ((x >>> 12) &&& ones 8), U ((x >>> 20) &&& ones 4), K⟩ := by unfold insOf; rw [u0, u1, u2, u3]
            rw [hins] at hspec
            have hx0 := U_nonneg x
            generalize x &&& ones 8 = y0 at *
            generalize (x >>> 8) &&& ones 4 = y1 at *
            generalize (x >>> 12) &&& ones 8 = y2 at *
            generalize (x >>> 20) &&& ones 4 = y3 at *
            have s0 : IntKind.i64.wrap (U y0) = U y0 := IntWalk.i64_in _ (by omega)
            have s1 : IntKind.i64.wrap (U y1) = U y1 := IntWalk.i64_in _ (by omega)
            have s2 : IntKind.i64.wrap (U y2) = U y2 := IntWalk.i64_in _ (by omega)
            have s3 : IntKind.i64.wrap (U y3) = U y3 := IntWalk.i64_in _ (by omega)
            have hspec2 : decGo r = (decGo (r.drop (2 * (k + 1)))).map ((acc ++ [⟨U y0, U y1, U y2, U y3, K⟩]) ++ ·) := by
              rw [hspec, show 2 * (k + 1) = 2 * k + 1 + 1 from rfl]
              cases decGo (r.drop (2 * k + 1 + 1)) with
              | none => rfl
              | some z => simp
            have HSP := Lib.hid hspec2
            have HU := Lib.hid hu
            have HJ := Lib.hid hj
            have HACC := Lib.hid hacc
            clear hspec hspec2 hu u0 u1 u2 u3 hins hx hK hx' hK' hc1 hc2 h24 hx0 hj hacc
            go_wp2_with fail
            refine (unpack_own x _ _ _ _ _ hfr).mono ?_
            rw [HU.out]
            rintro e w5 ⟨A5, c5, rfl, hou, hb5⟩
            rcases hou.2 with ⟨-, hz⟩ | ⟨b5, cap5, cu5, hg5, hbg5, -, -, -, -, -⟩
            · simp at hz
            simp only [Value.slice.injEq] at hg5
            obtain ⟨rfl, -, -⟩ := hg5
            have f0 : w5.cell? ⟨b5, 0, none⟩ = some (.int .u64 (U y0)) := hou.cellAt 0 (by simp)
            have f1 : w5.cell? ⟨b5, 0 + 1, none⟩ = some (.int .u64 (U y1)) := hou.cellAt 1 (by simp)
            have f2 : w5.cell? ⟨b5, 0 + 2, none⟩ = some (.int .u64 (U y2)) := hou.cellAt 2 (by simp)
            have f3 : w5.cell? ⟨b5, 0 + 3, none⟩ = some (.int .u64 (U y3)) := hou.cellAt 3 (by simp)
            rw [Nat.zero_add] at f1 f2 f3
            have hne5 : some b5 ≠ (Value.slice A' k c').ownBlock := own_ne hownA (Or.inr hbg5)
            have hneb : some b ≠ (Value.slice A' k c').ownBlock := own_ne hownA (Or.inl (by omega))
            simp only [World.size_alloc] at hbg5
            have hb5ne : b5 ≠ w.heap.size + 1 := by omega
            have g1 := keep_cell hb5 e1a
            have own5 := own_keep hownA hb5
            have C5 := CA.below hb5
            have hs5 := hb5.size
            have hB5 := hbA.trans (hb5.mono (by simp; omega))
            have o1 : w5.cell? ⟨w.heap.size + 1, 1, none⟩ = some (.slice A' k c') := C5.cell 1 _ rfl
            have o1a : (w5.alloc (.cells #[.int .i64 (U y0), .int .i64 (U y1), .int .i64 (U y2), .int .i64 (U y3), .int .u64 (U K)] 60)).cell? ⟨w.heap.size + 1, 1, none⟩ = some (.slice A' k c') := (C5.alloc _).cell 1 _ rfl
            have hs5' : w.heap.size + 2 ≤ w5.heap.size := by simp at hs5; omega
            have q1 : k + 1 ≤ maxLen := by have := HN.out; have := HJ.out; unfold maxLen; omega
            have q2 : (k + 1) * 40 ≤ 140737488355328 := by have := HN.out; have := HJ.out; omega
            have hj2 : IntKind.i64.wrap ((j : Int) + 1) = (j : Int) + 1 := IntWalk.i64_in _ (by have := HN.out; omega)
            have hjn : (0 : Int) ≤ (j : Int) + 1 := by omega
            have hjt : ((j : Int) + 1).toNat = j + 1 := by omega
            have hbne : b ≠ w.heap.size + 1 := by omega
            clear hou e0 e1 e1a hown hownA CA hfr
            simp only [List.length_cons, List.length_nil] at *
            go_wp2_with fail
            have hown6 := (own5.alloc (.cells #[.int .i64 (U y0), .int .i64 (U y1), .int .i64 (U y2), .int .i64 (U y3), .int .u64 (U K)] 60)).drew
            have hfr6 := (Reads.fresh w5 #[.int .i64 (U y0), .int .i64 (U y1), .int .i64 (U y2), .int .i64 (U y3), .int .u64 (U K)] 60 5 1 rfl (by decide)).drew
            have hb5ne' : w.heap.size + 1 ≠ b5 := by omega
            have hbne' : w.heap.size + 1 ≠ b := by omega
            have HNE5 := Lib.hid hne5
            have HNEB := Lib.hid hneb
            clear hne5 hneb
            have hS0 : (fun w' => w'.cell? ⟨b5, 0, none⟩ = some (.int .u64 (U y0)) ∧ w'.cell? ⟨b5, 1, none⟩ = some (.int .u64 (U y1)) ∧ w'.cell? ⟨b5, 2, none⟩ = some (.int .u64 (U y2)) ∧ w'.cell? ⟨b5, 3, none⟩ = some (.int .u64 (U y3)) ∧ w'.cell? ⟨b, off + (j + 1), none⟩ = some (.int .u64 (U K))) w5.drew := ⟨f0, f1, f2, f3, g1⟩
            refine wp_region_noPanic ?_
            refine wp_region_held_drew (S := (fun w' => w'.cell? ⟨b5, 0, none⟩ = some (.int .u64 (U y0)) ∧ w'.cell? ⟨b5, 1, none⟩ = some (.int .u64 (U y1)) ∧ w'.cell? ⟨b5, 2, none⟩ = some (.int .u64 (U y2)) ∧ w'.cell? ⟨b5, 3, none⟩ = some (.int .u64 (U y3)) ∧ w'.cell? ⟨b, off + (j + 1), none⟩ = some (.int .u64 (U K)))) (by kernel_rfl) hS0 (fun hHeld => ?_)
            clear hS0
            refine wpAnyH_take (i := 0) (v := ?_) rfl (by kernel_rfl) (by kernel_rfl) (by kernel_rfl) (fun _ _ _ h => h) (Or.inl ⟨by rfl, ?_⟩) (by assumption) ?_
            rotate_left
            · intro wq hSw; (try dsimp only at hSw); go_simp; (try with_reducible rfl)
            (try simp only [Act.put, List.setIfInBounds_toArray, List.set_cons_zero, List.set_cons_succ])
            refine wpAnyH_take (i := 2) (v := ?_) rfl (by kernel_rfl) (by kernel_rfl) (by kernel_rfl) (fun _ _ _ h => h) (Or.inl ⟨by rfl, ?_⟩) (by assumption) ?_
            rotate_left
            · intro wq hSw; (try dsimp only at hSw); go_simp; (try with_reducible rfl)
            (try simp only [Act.put, List.setIfInBounds_toArray, List.set_cons_zero, List.set_cons_succ])
            refine wpAnyH_take (i := 3) (v := ?_) rfl (by kernel_rfl) (by kernel_rfl) (by kernel_rfl) (fun _ _ _ h => h) (Or.inl ⟨by rfl, ?_⟩) (by assumption) ?_
            rotate_left
            · intro wq hSw; (try dsimp only at hSw); go_simp; (try with_reducible rfl)
            (try simp only [Act.put, List.setIfInBounds_toArray, List.set_cons_zero, List.set_cons_succ])
            refine wpAnyH_take (i := 4) (v := ?_) rfl (by kernel_rfl) (by kernel_rfl) (by kernel_rfl) (fun _ _ _ h => h) (Or.inl ⟨by rfl, ?_⟩) (by assumption) ?_
            rotate_left
            · intro wq hSw; (try dsimp only at hSw); go_simp; (try with_reducible rfl)
            (try simp only [Act.put, List.setIfInBounds_toArray, List.set_cons_zero, List.set_cons_succ])
            refine wpAnyH_take (i := 5) (v := ?_) rfl (by kernel_rfl) (by kernel_rfl) (by kernel_rfl) (fun _ _ _ h => h) (Or.inl ⟨by rfl, ?_⟩) (by assumption) ?_
            rotate_left
            · intro wq hSw; (try dsimp only at hSw); go_simp; (try with_reducible rfl)
            (try simp only [Act.put, List.setIfInBounds_toArray, List.set_cons_zero, List.set_cons_succ])
            refine wpAnyH_take (i := 6) (v := ?_) rfl (by kernel_rfl) (by kernel_rfl) (by kernel_rfl) (fun _ _ _ h => h) (Or.inl ⟨by rfl, ?_⟩) (by assumption) ?_
            rotate_left
            · intro wq hSw; (try dsimp only at hSw); go_simp; (try with_reducible rfl)
            (try simp only [Act.put, List.setIfInBounds_toArray, List.set_cons_zero, List.set_cons_succ])
            refine wpAnyH_take (i := 7) (v := ?_) rfl (by kernel_rfl) (by kernel_rfl) (by kernel_rfl) (fun _ _ _ h => h) (Or.inl ⟨by rfl, ?_⟩) (by assumption) ?_
            rotate_left
            · intro wq hSw; (try dsimp only at hSw); go_simp; (try with_reducible rfl)
            (try simp only [Act.put, List.setIfInBounds_toArray, List.set_cons_zero, List.set_cons_succ])
            refine wpAnyH_take (i := 8) (v := ?_) rfl (by kernel_rfl) (by kernel_rfl) (by kernel_rfl) (fun _ _ _ h => h) (Or.inl ⟨by rfl, ?_⟩) (by assumption) ?_
            rotate_left
            · intro wq hSw; (try dsimp only at hSw); go_simp; (try with_reducible rfl)
            (try simp only [Act.put, List.setIfInBounds_toArray, List.set_cons_zero, List.set_cons_succ])
            refine wpAnyH_take (i := 9) (v := ?_) rfl (by kernel_rfl) (by kernel_rfl) (by kernel_rfl) (fun _ _ _ h => h) (Or.inl ⟨by rfl, ?_⟩) (by assumption) ?_
            rotate_left
            · intro wq hSw; (try dsimp only at hSw); go_simp; (try with_reducible rfl)
            (try simp only [Act.put, List.setIfInBounds_toArray, List.set_cons_zero, List.set_cons_succ])
            refine wpAnyH_take (i := 10) (v := ?_) rfl (by kernel_rfl) (by kernel_rfl) (by kernel_rfl) (fun _ _ _ h => h) (Or.inl ⟨by rfl, ?_⟩) (by assumption) ?_
            rotate_left
            · intro wq hSw; (try dsimp only at hSw); go_simp; (try with_reducible rfl)
            (try simp only [Act.put, List.setIfInBounds_toArray, List.set_cons_zero, List.set_cons_succ])
            refine wpAnyH_take (i := 11) (v := ?_) rfl (by kernel_rfl) (by kernel_rfl) (by kernel_rfl) (fun _ _ _ h => h) (Or.inl ⟨by rfl, ?_⟩) (by assumption) ?_
            rotate_left
            · intro wq hSw; (try dsimp only at hSw); go_simp; (try with_reducible rfl)
            (try simp only [Act.put, List.setIfInBounds_toArray, List.set_cons_zero, List.set_cons_succ])
            refine wpAnyH_take (i := 12) (v := ?_) rfl (by kernel_rfl) (by kernel_rfl) (by kernel_rfl) (fun _ _ _ h => h) (Or.inl ⟨by rfl, ?_⟩) (by assumption) ?_
            rotate_left
            · intro wq hSw; (try dsimp only at hSw); go_simp; (try with_reducible rfl)
            (try simp only [Act.put, List.setIfInBounds_toArray, List.set_cons_zero, List.set_cons_succ])
            refine wpAnyH_take (i := 13) (v := ?_) rfl (by kernel_rfl) (by kernel_rfl) (by kernel_rfl) (fun _ _ _ h => h) (Or.inl ⟨by rfl, ?_⟩) (by assumption) ?_
            rotate_left
            · intro wq hSw; (try dsimp only at hSw); go_simp; (try with_reducible rfl)
            (try simp only [Act.put, List.setIfInBounds_toArray, List.set_cons_zero, List.set_cons_succ])
            refine wpAnyH_take (i := 14) (v := ?_) rfl (by kernel_rfl) (by kernel_rfl) (by kernel_rfl) (fun _ _ _ h => h) (Or.inl ⟨by rfl, ?_⟩) (by assumption) ?_
            rotate_left
            · intro wq hSw; (try dsimp only at hSw); go_simp; (try with_reducible rfl)
            (try simp only [Act.put, List.setIfInBounds_toArray, List.set_cons_zero, List.set_cons_succ])
            refine wpAnyH_take (i := 15) (v := ?_) rfl (by kernel_rfl) (by kernel_rfl) (by kernel_rfl) (fun _ _ _ h => h) (Or.inl ⟨by rfl, ?_⟩) (by assumption) ?_
            rotate_left
            · intro wq hSw; (try dsimp only at hSw); go_simp; (try with_reducible rfl)
            (try simp only [Act.put, List.setIfInBounds_toArray, List.set_cons_zero, List.set_cons_succ])
            refine wpAnyH_take (i := 16) (v := ?_) rfl (by kernel_rfl) (by kernel_rfl) (by kernel_rfl) (fun _ _ _ h => h) (Or.inl ⟨by rfl, ?_⟩) (by assumption) ?_
            rotate_left
            · intro wq hSw; (try dsimp only at hSw); go_simp; (try with_reducible rfl)
            (try simp only [Act.put, List.setIfInBounds_toArray, List.set_cons_zero, List.set_cons_succ])
            refine wpAnyH_take (i := 17) (v := ?_) rfl (by kernel_rfl) (by kernel_rfl) (by kernel_rfl) (fun _ _ _ h => h) (Or.inl ⟨by rfl, ?_⟩) (by assumption) ?_
            rotate_left
            · intro wq hSw; (try dsimp only at hSw); go_simp; (try with_reducible rfl)
            (try simp only [Act.put, List.setIfInBounds_toArray, List.set_cons_zero, List.set_cons_succ])
            refine wpAnyH_take (i := 18) (v := ?_) rfl (by kernel_rfl) (by kernel_rfl) (by kernel_rfl) (fun _ _ _ h => h) (Or.inl ⟨by rfl, ?_⟩) (by assumption) ?_
            rotate_left
            · intro wq hSw; (try dsimp only at hSw); go_simp; (try with_reducible rfl)
            (try simp only [Act.put, List.setIfInBounds_toArray, List.set_cons_zero, List.set_cons_succ])
            refine wpAnyH_take (i := 19) (v := ?_) rfl (by kernel_rfl) (by kernel_rfl) (by kernel_rfl) (fun _ _ _ h => h) (Or.inl ⟨by rfl, ?_⟩) (by assumption) ?_
            rotate_left
            · intro wq hSw; (try dsimp only at hSw); go_simp; (try with_reducible rfl)
            (try simp only [Act.put, List.setIfInBounds_toArray, List.set_cons_zero, List.set_cons_succ])
            refine wpAnyH_take (i := 20) (v := ?_) rfl (by kernel_rfl) (by kernel_rfl) (by kernel_rfl) (fun _ _ _ h => h) (Or.inl ⟨by rfl, ?_⟩) (by assumption) ?_
            rotate_left
            · intro wq hSw; (try dsimp only at hSw); go_simp; (try with_reducible rfl)
            (try simp only [Act.put, List.setIfInBounds_toArray, List.set_cons_zero, List.set_cons_succ])
            refine wpAnyH_take (i := 21) (v := ?_) rfl (by kernel_rfl) (by kernel_rfl) (by kernel_rfl) (fun _ _ _ h => h) (Or.inl ⟨by rfl, ?_⟩) (by assumption) ?_
            rotate_left
            · intro wq hSw; (try dsimp only at hSw); go_simp; (try with_reducible rfl)
            (try simp only [Act.put, List.setIfInBounds_toArray, List.set_cons_zero, List.set_cons_succ])
            refine wpAnyH_take (i := 22) (v := ?_) rfl (by kernel_rfl) (by kernel_rfl) (by kernel_rfl) (fun _ _ _ h => h) (Or.inl ⟨by rfl, ?_⟩) (by assumption) ?_
            rotate_left
            · intro wq hSw; (try dsimp only at hSw); go_simp; (try with_reducible rfl)
            (try simp only [Act.put, List.setIfInBounds_toArray, List.set_cons_zero, List.set_cons_succ])
            refine wpAnyH_take (i := 23) (v := ?_) rfl (by kernel_rfl) (by kernel_rfl) (by kernel_rfl) (fun _ _ _ h => h) (Or.inl ⟨by rfl, ?_⟩) (by assumption) ?_
            rotate_left
            · intro wq hSw; (try dsimp only at hSw); go_simp; (try with_reducible rfl)
            (try simp only [Act.put, List.setIfInBounds_toArray, List.set_cons_zero, List.set_cons_succ])
            refine wpAnyH_ready (rs := [1, 24]) (by kernel_rfl) (by simp) ?_
            refine AllReadyH.cons rfl (fun K' hK => ?_) (AllReadyH.cons rfl (fun K' hK => ?_) AllReadyH.nil)
            · go_simp
              refine hK.out _ _ ?_ (fun hHeld2 => ?_)
              · exact hHeld
              clear hK K' hHeld
              have hHeld := hHeld2
              clear hHeld2
              (try simp only [Act.put, List.setIfInBounds_toArray, List.set_cons_zero, List.set_cons_succ])
              refine wpAnyH_ready (rs := [24]) (by kernel_rfl) (by simp) ?_
              refine AllReadyH.cons rfl (fun K' hK => ?_) ?_
              rotate_left
              · exact AllReadyH.nil
              go_simp
              refine hK.out _ _ ?_ (fun hHeld2 => ?_)
              · go_keep
              clear hK K' hHeld
              have hHeld := hHeld2
              clear hHeld2
              (try simp only [Act.put, List.setIfInBounds_toArray, List.set_cons_zero, List.set_cons_succ])
              refine wpAnyH_ready (rs := [25]) (by kernel_rfl) (by simp) ?_
              refine AllReadyH.cons rfl (fun K' hK => ?_) ?_
              rotate_left
              · exact AllReadyH.nil
              (refine step_appG rfl _ _ _ (by rfl) tyNIns (by rfl) hown6 (by rfl) hfr6 (by simp [Value.oneCell']) q1 q2 (by simp; omega) ?_; intro v' w6 hown' hg6; obtain ⟨A2, c2, rfl, -⟩ := Reads.own hown'; have hb6 := (Below.refl (w.heap.size + 2) _).grown hg6 (by simp; omega) (fun k hk => (hown6.lt k hk).1); have C6 := ((C5.alloc (.cells #[.int .i64 (U y0), .int .i64 (U y1), .int .i64 (U y2), .int .i64 (U y3), .int .u64 (U K)] 60)).drew).belowB hb6 (by omega); have o6 : w6.cell? ⟨w.heap.size + 1, 1, none⟩ = some (.slice A' k c') := C6.cell 1 _ rfl; have fo6 := C6.free)
              refine hK.out _ _ ?_ (fun hHeld2 => ?_)
              · (refine ⟨?_, ?_, ?_, ?_, ?_⟩ <;> first | (refine hg6.cell ?_ HNE5.out; (try dsimp only at hHeld); (go_split_ands; assumption)) | (refine hg6.cell ?_ HNEB.out; (try dsimp only at hHeld); (go_split_ands; assumption)))
              clear hK K' hHeld
              have hHeld := hHeld2
              clear hHeld2
              (try simp only [Act.put, List.setIfInBounds_toArray, List.set_cons_zero, List.set_cons_succ])
              refine wpAnyH_take (i := 26) (v := ?_) rfl (by kernel_rfl) (by kernel_rfl) (by kernel_rfl) (fun _ _ _ h => h) (Or.inl ⟨by rfl, ?_⟩) (by assumption) ?_
              rotate_left
              · intro wq hSw; (try dsimp only at hSw); go_simp; (try with_reducible rfl)
              (try simp only [Act.put, List.setIfInBounds_toArray, List.set_cons_zero, List.set_cons_succ])
              refine wpAnyH_ready (rs := [27]) (by kernel_rfl) (by simp) ?_
              refine AllReadyH.cons rfl (fun K' hK => ?_) ?_
              rotate_left
              · exact AllReadyH.nil
              go_simp
              refine hK.out _ _ ?_ (fun hHeld2 => ?_)
              · ((try dsimp only at hHeld); go_split_ands; refine ⟨?_, ?_, ?_, ?_, ?_⟩ <;> first | exact cell_far hb5ne' (by assumption) | exact cell_far hbne' (by assumption))
              clear hK K' hHeld
              have hHeld := hHeld2
              clear hHeld2
              (try simp only [Act.put, List.setIfInBounds_toArray, List.set_cons_zero, List.set_cons_succ])
              refine wpAnyH_done (by kernel_rfl) ?_ _
              refine NoPanic.normal ?_
              go_wp2_with fail
              go_roundw
              case rel =>
                refine ⟨k + 1, acc ++ [⟨U y0, U y1, U y2, U y3, K⟩], A2, c2, by have := HJ.out; omega, by congr 1; have := HJ.out; omega, by rw [List.length_append, HACC.out]; rfl, ?_, C6.set 1 (.slice A2 (k + 1) c2), ?_, HSP.out⟩
                · rw [List.flatMap_append]
                  exact ownsRow_setCell_below hown' (by show w.heap.size + 1 < _; omega) _
                · exact (((hB5.alloc (by omega) _).drew).trans (hb6.mono (by omega))).setCell (by show w.heap.size + 1 ≤ w.heap.size + 1; omega) _
              case measure => simp [intOf]; omega
            · go_simp
              refine hK.out _ _ ?_ (fun hHeld2 => ?_)
              · go_keep
              clear hK K' hHeld
              have hHeld := hHeld2
              clear hHeld2
              (try simp only [Act.put, List.setIfInBounds_toArray, List.set_cons_zero, List.set_cons_succ])
              refine wpAnyH_ready (rs := [1]) (by kernel_rfl) (by simp) ?_
              refine AllReadyH.cons rfl (fun K' hK => ?_) ?_
              rotate_left
              · exact AllReadyH.nil
              go_simp
              refine hK.out _ _ ?_ (fun hHeld2 => ?_)
              · exact hHeld
              clear hK K' hHeld
              have hHeld := hHeld2
              clear hHeld2
              (try simp only [Act.put, List.setIfInBounds_toArray, List.set_cons_zero, List.set_cons_succ])
              refine wpAnyH_ready (rs := [25]) (by kernel_rfl) (by simp) ?_
              refine AllReadyH.cons rfl (fun K' hK => ?_) ?_
              rotate_left
              · exact AllReadyH.nil
              (refine step_appG rfl _ _ _ (by rfl) tyNIns (by rfl) hown6 (by rfl) hfr6 (by simp [Value.oneCell']) q1 q2 (by simp; omega) ?_; intro v' w6 hown' hg6; obtain ⟨A2, c2, rfl, -⟩ := Reads.own hown'; have hb6 := (Below.refl (w.heap.size + 2) _).grown hg6 (by simp; omega) (fun k hk => (hown6.lt k hk).1); have C6 := ((C5.alloc (.cells #[.int .i64 (U y0), .int .i64 (U y1), .int .i64 (U y2), .int .i64 (U y3), .int .u64 (U K)] 60)).drew).belowB hb6 (by omega); have o6 : w6.cell? ⟨w.heap.size + 1, 1, none⟩ = some (.slice A' k c') := C6.cell 1 _ rfl; have fo6 := C6.free)
              refine hK.out _ _ ?_ (fun hHeld2 => ?_)
              · (refine ⟨?_, ?_, ?_, ?_, ?_⟩ <;> first | (refine hg6.cell ?_ HNE5.out; (try dsimp only at hHeld); (go_split_ands; assumption)) | (refine hg6.cell ?_ HNEB.out; (try dsimp only at hHeld); (go_split_ands; assumption)))
              clear hK K' hHeld
              have hHeld := hHeld2
              clear hHeld2
              (try simp only [Act.put, List.setIfInBounds_toArray, List.set_cons_zero, List.set_cons_succ])
              refine wpAnyH_take (i := 26) (v := ?_) rfl (by kernel_rfl) (by kernel_rfl) (by kernel_rfl) (fun _ _ _ h => h) (Or.inl ⟨by rfl, ?_⟩) (by assumption) ?_
              rotate_left
              · intro wq hSw; (try dsimp only at hSw); go_simp; (try with_reducible rfl)
              (try simp only [Act.put, List.setIfInBounds_toArray, List.set_cons_zero, List.set_cons_succ])
              refine wpAnyH_ready (rs := [27]) (by kernel_rfl) (by simp) ?_
              refine AllReadyH.cons rfl (fun K' hK => ?_) ?_
              rotate_left
              · exact AllReadyH.nil
              go_simp
              refine hK.out _ _ ?_ (fun hHeld2 => ?_)
              · ((try dsimp only at hHeld); go_split_ands; refine ⟨?_, ?_, ?_, ?_, ?_⟩ <;> first | exact cell_far hb5ne' (by assumption) | exact cell_far hbne' (by assumption))
              clear hK K' hHeld
              have hHeld := hHeld2
              clear hHeld2
              (try simp only [Act.put, List.setIfInBounds_toArray, List.set_cons_zero, List.set_cons_succ])
              refine wpAnyH_done (by kernel_rfl) ?_ _
              refine NoPanic.normal ?_
              go_wp2_with fail
              go_roundw
              case rel =>
                refine ⟨k + 1, acc ++ [⟨U y0, U y1, U y2, U y3, K⟩], A2, c2, by have := HJ.out; omega, by congr 1; have := HJ.out; omega, by rw [List.length_append, HACC.out]; rfl, ?_, C6.set 1 (.slice A2 (k + 1) c2), ?_, HSP.out⟩
                · rw [List.flatMap_append]
                  exact ownsRow_setCell_below hown' (by show w.heap.size + 1 < _; omega) _
                · exact (((hB5.alloc (by omega) _).drew).trans (hb6.mono (by omega))).setCell (by show w.heap.size + 1 ≤ w.heap.size + 1; omega) _
              case measure => simp [intOf]; omega
          · rw [if_neg h24] at hu hspec
            have hnone : decGo r = none := by rw [hspec]; rfl
            have hres : decC (g :: r) = (0, [], 21) := by rw [HD.out, hnone]
            have HRES := Lib.hid hres
            have HU := Lib.hid hu
            clear hspec hnone hres hu hx hK hx' hK' hc1 hc2 h24 hown hownA hacc
            go_wp2_with fail
            refine (unpack_any x _ _ _ _ _ hfr).mono ?_
            rw [HU.out]
            rintro e w5 ⟨A5, c5, rfl, -, hb5⟩
            simp only [List.length_nil]
            have R5 := RA.below hb5
            have r0 : w5.cell? ⟨w.heap.size, 0, none⟩ = some (.int .i64 0) := R5.cell 0 _ rfl
            have r1 : w5.cell? ⟨w.heap.size, 1, none⟩ = some (.slice none 0 0) := R5.cell 1 _ rfl
            have fr5 := R5.free
            have hBf := (hBr.alloc hBr.size (.cells #[.int .i64 8, .int .i64 4, .int .i64 8, .int .i64 4] 3)).trans (hb5.mono (by have := hBr.size; simp; omega))
            go_wp2_with fail
            refine bodyPost_ret (v := .tuple #[codeV 0 none 0 0, .int .i64 21]) (by simp [results, Try.results17, go_sem, r0, r1]) rfl ?_
            rw [HRES.out]
            exact ⟨none, 0, rfl, Reads.nil, (hBf.setCell (by simp) _).setCell (by simp) _⟩
        · have hr0 : r.drop (2 * k) = [] := List.drop_eq_nil_of_le (by have := HL.out; rw [List.length_cons] at this; omega)
          rw [hr0, show decGo [] = some [] from rfl] at hspec
          have hsome : decGo r = some acc := by rw [hspec]; simp
          have hjn : j = n := by omega
          have r0 : wr.cell? ⟨w.heap.size, 0, none⟩ = some (.int .i64 0) := R.cell 0 _ rfl
          have r1 : wr.cell? ⟨w.heap.size, 1, none⟩ = some (.slice none 0 0) := R.cell 1 _ rfl
          have c0 : wr.cell? ⟨w.heap.size + 1, 0, none⟩ = some (.int .i64 (U g)) := C.cell 0 _ rfl
          have c1 : wr.cell? ⟨w.heap.size + 1, 1, none⟩ = some (.slice A' k c') := C.cell 1 _ rfl
          obtain ⟨A3, c3, e3, hr3⟩ := Reads.own hown
          injection e3 with x1 x2 x3
          subst x1 x3
          cases hf : formedC (U g) acc
          · have hres : decC (g :: r) = (0, [], 21) := by rw [HD.out, hsome]; dsimp only; rw [hf]; rfl
            have HRES := Lib.hid hres
            have HF := Lib.hid hf
            clear hres hf hsome hspec hr0 hacc hown hlt hj
            go_wp2_with fail
            refine (formed_any _ _ _ _ _ _ hr3).mono ?_
            rintro e w5 ⟨rfl, hb5⟩
            rw [HF.out]
            have R5 := R.below hb5
            have r0' : w5.cell? ⟨w.heap.size, 0, none⟩ = some (.int .i64 0) := R5.cell 0 _ rfl
            have r1' : w5.cell? ⟨w.heap.size, 1, none⟩ = some (.slice none 0 0) := R5.cell 1 _ rfl
            have fr5 := R5.free
            go_wp2_with fail
            refine bodyPost_ret (v := .tuple #[codeV 0 none 0 0, .int .i64 21]) (by simp [results, Try.results17, go_sem, r0', r1']) rfl ?_
            rw [HRES.out]
            exact ⟨none, 0, rfl, Reads.nil, ((keep_below hb5 hBr).setCell (by simp) _).setCell (by simp) _⟩
          · have hres : decC (g :: r) = (U g, acc, 0) := by rw [HD.out, hsome]; dsimp only; rw [if_pos hf]
            have HRES := Lib.hid hres
            have HF := Lib.hid hf
            have HACC := Lib.hid hacc
            clear hres hf hsome hspec hr0 hacc hlt hj
            go_wp2_with fail
            refine (formed_any _ _ _ _ _ _ hr3).mono ?_
            rintro e w5 ⟨rfl, hb5⟩
            rw [HF.out]
            have R5 := R.below hb5
            have r0' : w5.cell? ⟨w.heap.size, 0, none⟩ = some (.int .i64 0) := R5.cell 0 _ rfl
            have r1' : w5.cell? ⟨w.heap.size, 1, none⟩ = some (.slice none 0 0) := R5.cell 1 _ rfl
            have fr5 := R5.free
            have C5 := C.below hb5
            have c0' : w5.cell? ⟨w.heap.size + 1, 0, none⟩ = some (.int .i64 (U g)) := C5.cell 0 _ rfl
            have c1' : w5.cell? ⟨w.heap.size + 1, 1, none⟩ = some (.slice A' k c') := C5.cell 1 _ rfl
            have own5 := ownsRow_setCell_below (ownsRow_setCell_below (own_keep hown hb5) (a := ⟨w.heap.size, 0, none⟩) (by show w.heap.size < _; omega) (.int .i64 (U g))) (a := ⟨w.heap.size, 1, none⟩) (by show w.heap.size < _; omega) (.slice A' k c')
            obtain ⟨A4, c4, e4, hr4⟩ := Reads.own own5
            injection e4 with x1 x2 x3
            subst x1 x3
            have HR4 := Lib.hid hr4
            clear own5 hr4 hown
            go_wp2_with fail
            refine bodyPost_ret (v := .tuple #[codeV (U g) A' k c', .int .i64 0]) (by simp [results, Try.results17, go_sem, r0', r1']) rfl ?_
            rw [HRES.out]
            exact ⟨A', c', by rw [HACC.out], by rw [HACC.out]; exact HR4.out, ((keep_below hb5 hBr).setCell (by simp) _).setCell (by simp) _⟩
    · have hres : decC (g :: r) = (0, [], 21) := by unfold decC; dsimp only; rw [if_neg (fun h => hg3 h.2)]
      rw [hres]
      have hd : decide ((3 : Int) < U g) = true := by simp; omega
      have hne : ((n : Int) % 2 != 1) = false := by simp; omega
      have hp : 0 < n := by omega
      clear hres hlen hg3
      go_enter Try.func17, Try.ntmps17
      go_wp2_with fail
      refine bodyPost_ret (v := .tuple #[codeV 0 none 0 0, .int .i64 21]) (by simp [results, Try.results17, go_sem, r0, r1]) rfl ?_
      exact ⟨none, 0, rfl, Reads.nil, hW⟩
  · have hres : decC l = (0, [], 21) := by
      unfold decC
      cases l with
      | nil => rfl
      | cons a r => dsimp only; rw [if_neg (fun h => hodd (by rw [← hlen]; exact h.1))]
    rw [hres]
    have ho : ((n : Int) % 2 != 1) = true := by simp; omega
    clear hres hlen hodd
    go_enter Try.func17, Try.ntmps17
    go_wp2_with fail
    refine bodyPost_ret (v := .tuple #[codeV 0 none 0 0, .int .i64 21]) (by simp [results, Try.results17, go_sem, r0, r1]) rfl ?_
    exact ⟨none, 0, rfl, Reads.nil, hW⟩
end Go.Proofs.Ytpmdgmgcbminaaa

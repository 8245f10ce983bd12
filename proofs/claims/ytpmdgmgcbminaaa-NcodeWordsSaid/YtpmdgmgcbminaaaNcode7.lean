/- The contract of the reference of Decode. PRINTED out of XNcode6 BY A PROGRAM, then turned. -/
import Derived.Test.YtpmdgmgcbminaaaNcode6
import Derived.Deep.RegionLaw
namespace Go.Proofs.Ytpmdgmgcbminaaa
open Go.RowKit Words

set_option maxRecDepth 100000 in
theorem decGo_len (n : Nat) : ∀ (l : List (BitVec 64)) (is : List NI), l.length ≤ n → decGo l = some is → is.length = l.length / 2 := by
  induction n with
  | zero =>
    intro l is hl h
    obtain rfl : l = [] := List.eq_nil_of_length_eq_zero (by omega)
    obtain rfl : [] = is := Option.some.inj h
    rfl
  | succ n ih =>
    intro l is hl h
    rcases l with _ | ⟨w, _ | ⟨k, r⟩⟩
    · obtain rfl : [] = is := Option.some.inj h
      rfl
    · obtain rfl : [] = is := Option.some.inj h
      simp
    · rw [decGo] at h
      by_cases h24 : U w < 16777216
      · rw [if_pos h24] at h
        cases hd : decGo r with
        | none => rw [hd] at h; cases h
        | some z =>
          rw [hd] at h
          obtain rfl : insOf w k :: z = is := Option.some.inj h
          have := ih r z (by simp only [List.length_cons] at hl; omega) hd
          simp only [List.length_cons]
          omega
      · rw [if_neg h24] at h
        cases h
theorem decC_big (g : BitVec 64) (r : List (BitVec 64)) (h : 513 < (g :: r).length) : decC (g :: r) = (0, [], 21) := by
  unfold decC
  dsimp only
  split
  · rename_i hc
    cases hd : decGo r with
    | none => rfl
    | some z =>
      dsimp only
      have := decGo_len r.length r z (Nat.le_refl _) hd
      rw [List.length_cons] at h hc
      rw [if_neg]
      intro hf
      have := (formedC_parts hf).2.1
      omega
  · rfl

set_option linter.unusedSimpArgs false in
set_option maxRecDepth 100000 in
set_option maxHeartbeats 2000000 in
theorem rdecode_any (A : Option Addr) (n c : Nat) (l : List (BitVec 64)) (w : World) (h : Reads w w.heap.size 1 A n c (l.flatMap wordCells)) (hn : n ≤ 1000000) :
    Calls Try.prog 18 #[.slice A n c] w (RetCodeE w (decC l)) := by
  have hlen := h.length (fun _ => rfl) (by omega)
  have HN := Lib.hid hn
  have hW : Below w.heap.size w (w.alloc (.cells #[.int .i64 0, .slice none 0 0] 27)) := code_alloc w _ 0 none 0 0
  have R0 := Blk.new w #[.int .i64 0, .slice none 0 0] 27
  have r0 : (w.alloc (.cells #[.int .i64 0, .slice none 0 0] 27)).cell? ⟨w.heap.size, 0, none⟩ = some (.int .i64 0) := R0.cell 0 _ rfl
  have r1 : (w.alloc (.cells #[.int .i64 0, .slice none 0 0] 27)).cell? ⟨w.heap.size, 1, none⟩ = some (.slice none 0 0) := R0.cell 1 _ rfl
  have fr := R0.free
  by_cases hodd : n % 2 = 1
  · obtain ⟨b, off, g, rfl, hbb, hg, hc⟩ := h.elem (fun _ => rfl) (by omega) (k := 0) (show 0 < n by omega)
    have d0 := hc 0 _ rfl
    rw [Nat.zero_mul, Nat.add_zero] at d0
    obtain ⟨r, rfl⟩ : ∃ r, l = g :: r := by
      cases l with
      | nil => simp at hg
      | cons a r => simp at hg; subst hg; exact ⟨r, rfl⟩
    clear hg hc
    by_cases hg3 : U g ≤ 3
    · by_cases h513 : 513 < n
      · have hbig := decC_big g r (by rw [hlen]; omega)
        rw [hbig]
        have hd : decide ((3 : Int) < U g) = false := by simp; omega
        have hd2 : decide ((513 : Int) < (n : Int)) = true := by simp; omega
        have hne : ((n : Int) % 2 != 1) = false := by simp; omega
        have hp : 0 < n := by omega
        clear hbig hlen hg3 h513
        go_enter Try.func18, Try.ntmps18
        go_wp2_with fail
        refine bodyPost_ret (v := .tuple #[codeV 0 none 0 0, .int .i64 21]) (by simp [results, Try.results18, go_sem, r0, r1]) rfl ?_
        exact ⟨none, 0, rfl, Reads.nil, hW⟩
      have hd2 : decide ((513 : Int) < (n : Int)) = false := by simp; omega
      have hne : ((n : Int) % 2 != 1) = false := by simp; omega
      have hd : decide ((3 : Int) < U g) = false := by simp; omega
      have hp : 0 < n := by omega
      have hg0 := U_nonneg g
      have wg : IntKind.i64.wrap (U g) = U g := IntWalk.i64_in _ (by omega)
      have hB0 := keep_alloc hW (.cells #[.int .i64 (U g), .slice none 0 0] 27)
      have R1 := R0.alloc (.cells #[.int .i64 (U g), .slice none 0 0] 27)
      have C1 := Blk.newAt (w.alloc (.cells #[.int .i64 0, .slice none 0 0] 27)) #[.int .i64 (U g), .slice none 0 0] 27 (w.heap.size + 1) (by simp)
      have hdec : decC (g :: r) = (match decGo r with | some is => if formedC (U g) is = true then (U g, is, 0) else (0, [], 21) | none => (0, [], 21)) := by unfold decC; dsimp only; rw [if_pos ⟨by rw [hlen]; exact hodd, hg3⟩]; cases decGo r <;> rfl
      have HD := Lib.hid hdec
      have HL := Lib.hid hlen
      have HG := Lib.hid hg3
      have d0a : (w.alloc (.cells #[.int .i64 0, .slice none 0 0] 27)).cell? ⟨b, off, none⟩ = some (.int .u64 (U g)) := keep_cell hW d0
      clear hdec hlen hg3
      go_enter Try.func18, Try.ntmps18
      go_wp2_with fail
      obtain ⟨w1, hw1⟩ : ∃ w1, ((w.alloc (.cells #[.int .i64 0, .slice none 0 0] 27)).alloc (.cells #[.int .i64 (U g), .slice none 0 0] 27)) = w1 := ⟨_, rfl⟩
      have hs1 : w1.heap.size = w.heap.size + 2 := by rw [← hw1]; simp
      have HS1 := Lib.hid hs1
      rw [hw1] at hB0 R1 C1 ⊢
      have h1 := h.below hB0
      clear hw1 hs1 d0 d0a r0 r1 fr R0 wg hd
      go_loopw [5] (fun x wq => ∃ (k : Nat) (acc : List NI) (A' : Option Addr) (c' : Nat), 2 * k + 1 ≤ n ∧ x = .int .i64 ((2 * k + 1 : Nat) : Int) ∧ acc.length = k ∧ wq.ownsRow (w.heap.size + 2) 58 5 (.slice A' k c') k (acc.flatMap insCells) ∧ Blk wq (w.heap.size + 1) 27 #[.int .i64 (U g), .slice A' k c'] ∧ Below (w.heap.size + 1) w1 wq ∧ decGo r = (decGo (r.drop (2 * k))).map (acc ++ ·)) (fun x _ => n + 1 - (intOf x).toNat)
      case atStart => exact ⟨0, [], none, 0, by omega, rfl, rfl, World.ownsRow_nil _ _ _ _, C1, Below.refl _ _, by simp⟩
      case round =>
        obtain ⟨k, acc, A', c', hk, rfl, hacc, hown, C, hb, hspec⟩ := hrel
        have hsz := hb.size
        rw [HS1.out] at hsz
        have R := R1.belowB hb (by omega)
        have hBr := hB0.trans (hb.mono (show w.heap.size ≤ w.heap.size + 1 by omega))
        obtain ⟨j, hj⟩ : ∃ j, 2 * k + 1 = j := ⟨_, rfl⟩
        rw [hj] at hk ⊢
        by_cases hlt : j < n
        · have hj1 : j + 1 < n := by omega
          obtain ⟨b1, off1, x, he1, hbb1, hx, hc1⟩ := (h1.below (hb.mono (by omega))).elem (fun _ => rfl) (by omega) hlt
          obtain ⟨b2, off2, K, he2, hbb2, hK, hc2⟩ := (h1.below (hb.mono (by omega))).elem (fun _ => rfl) (by omega) hj1
          simp only [Option.some.injEq, Addr.mk.injEq, and_true] at he1 he2
          obtain ⟨rfl, rfl⟩ := he1
          obtain ⟨rfl, rfl⟩ := he2
          have e0 := hc1 0 _ rfl
          have e1 := hc2 0 _ rfl
          rw [Nat.mul_one, Nat.add_zero] at e0 e1
          have hx' : r[2 * k]? = some x := by rw [← hj, List.getElem?_cons_succ] at hx; exact hx
          have hK' : r[2 * k + 1]? = some K := by rw [← hj, show 2 * k + 1 + 1 = (2 * k + 1) + 1 from rfl, List.getElem?_cons_succ] at hK; exact hK
          rw [drop_at hx', drop_at hK', decGo] at hspec
          have hk0 : (0 : Int) ≤ (j : Int) := by omega
          have hk1 : (j : Int) < (n : Int) := by omega
          have hk2 : (j : Int) + 1 < (n : Int) := by omega
          by_cases h24 : U x < 16777216
          · rw [if_pos h24] at hspec
            have hx0 := U_nonneg x
            have u1 := U_shr x 8
            have u2 := U_shr x 12
            have u3 := U_shr x 20
            have p1 : (2 : Int) ^ 8 = 256 := rfl
            have p2 : (2 : Int) ^ 12 = 4096 := rfl
            have p3 : (2 : Int) ^ 20 = 1048576 := rfl
            rw [p1] at u1
            rw [p2] at u2
            rw [p3] at u3
            have hins : insOf x K = ⟨U x % 256, U (x >>> 8) % 16, U (x >>> 12) % 256, U (x >>> 20), K⟩ := by unfold insOf; rw [u1, u2, u3]
            rw [hins] at hspec
            have b0 := bits_and_255 x
            have b1 := bits_and_15 (x >>> 8)
            have b2 := bits_and_255 (x >>> 12)
            have s8 : Op.shift .shr .u64 (U x) .u64 8 = pure (.int .u64 (U (x >>> 8))) := shr_any .u64 x 8 (by omega)
            have s12 : Op.shift .shr .u64 (U x) .u64 12 = pure (.int .u64 (U (x >>> 12))) := shr_any .u64 x 12 (by omega)
            have s20 : Op.shift .shr .u64 (U x) .u64 20 = pure (.int .u64 (U (x >>> 20))) := shr_any .u64 x 20 (by omega)
            obtain ⟨y0, hy0⟩ : ∃ y0, U x % 256 = y0 := ⟨_, rfl⟩
            obtain ⟨y1, hy1⟩ : ∃ y1, U (x >>> 8) % 16 = y1 := ⟨_, rfl⟩
            obtain ⟨y2, hy2⟩ : ∃ y2, U (x >>> 12) % 256 = y2 := ⟨_, rfl⟩
            obtain ⟨y3, hy3⟩ : ∃ y3, U (x >>> 20) = y3 := ⟨_, rfl⟩
            rw [hy0] at b0 hspec
            rw [hy1] at b1 hspec
            rw [hy2] at b2 hspec
            rw [hy3] at s20 hspec
            have s0 : IntKind.i64.wrap y0 = y0 := IntWalk.i64_in _ (by omega)
            have s1 : IntKind.i64.wrap y1 = y1 := IntWalk.i64_in _ (by omega)
            have s2 : IntKind.i64.wrap y2 = y2 := IntWalk.i64_in _ (by omega)
            have s3 : IntKind.i64.wrap y3 = y3 := IntWalk.i64_in _ (by omega)
            have hd24 : decide ((16777216 : Int) ≤ U x) = false := by simp; omega
            have hspec2 : decGo r = (decGo (r.drop (2 * (k + 1)))).map ((acc ++ [⟨y0, y1, y2, y3, K⟩]) ++ ·) := by
              rw [hspec, show 2 * (k + 1) = 2 * k + 1 + 1 from rfl]
              cases decGo (r.drop (2 * k + 1 + 1)) with
              | none => rfl
              | some z => simp
            have HSP := Lib.hid hspec2
            have HJ := Lib.hid hj
            have HACC := Lib.hid hacc
            have o1 : wr.cell? ⟨w.heap.size + 1, 1, none⟩ = some (.slice A' k c') := C.cell 1 _ rfl
            have q1 : k + 1 ≤ maxLen := by have := HN.out; have := HJ.out; unfold maxLen; omega
            have q2 : (k + 1) * 40 ≤ 140737488355328 := by have := HN.out; have := HJ.out; omega
            have hj2 : IntKind.i64.wrap ((j : Int) + 1) = (j : Int) + 1 := IntWalk.i64_in _ (by have := HN.out; omega)
            have hjn : (0 : Int) ≤ (j : Int) + 1 := by omega
            have hjt : ((j : Int) + 1).toNat = j + 1 := by omega
            have hown6 := (hown.alloc (.cells #[.int .i64 y0, .int .i64 y1, .int .i64 y2, .int .i64 y3, .int .u64 (U K)] 58)).drew
            have hfr6 := (Reads.fresh wr #[.int .i64 y0, .int .i64 y1, .int .i64 y2, .int .i64 y3, .int .u64 (U K)] 58 5 1 rfl (by decide)).drew
            have e1b : (wr.alloc (.cells #[.int .i64 y0, .int .i64 y1, .int .i64 y2, .int .i64 y3, .int .u64 (U K)] 58)).cell? ⟨b, off + (j + 1), none⟩ = some (.int .u64 (U K)) := keep_cell (keep_alloc (Below.refl _ _) _) e1
            have o1b : (wr.alloc (.cells #[.int .i64 y0, .int .i64 y1, .int .i64 y2, .int .i64 y3, .int .u64 (U K)] 58)).cell? ⟨w.heap.size + 1, 1, none⟩ = some (.slice A' k c') := (C.alloc _).cell 1 _ rfl
            clear hspec hspec2 u1 u2 u3 hins hx hK hx' hK' hc1 hc2 h24 hx0 hj hacc p1 p2 p3 hy0 hy1 hy2 hy3
            go_wp2_with fail
            go_region_law ((refine step_app rfl _ _ _ (by rfl) tyRIns (by rfl) hown6 (by rfl) hfr6 (by simp [Value.oneCell']) q1 q2 (by simp; omega) ?_; intro v' w6 hown' hb6; obtain ⟨A2, c2, rfl, -⟩ := Reads.own hown'; have C6 := ((C.alloc (.cells #[.int .i64 y0, .int .i64 y1, .int .i64 y2, .int .i64 y3, .int .u64 (U K)] 58)).drew).belowB hb6 (by omega); have o6 : w6.cell? ⟨w.heap.size + 1, 1, none⟩ = some (.slice A' k c') := C6.cell 1 _ rfl; have fo6 := C6.free))
            all_goals
              go_wp2_with fail
              go_roundw
              case rel =>
                refine ⟨k + 1, acc ++ [⟨y0, y1, y2, y3, K⟩], A2, c2, by have := HJ.out; omega, by congr 1; have := HJ.out; omega, by rw [List.length_append, HACC.out]; rfl, ?_, C6.set 1 (.slice A2 (k + 1) c2), ?_, HSP.out⟩
                · rw [List.flatMap_append]
                  exact ownsRow_setCell_below hown' (by show w.heap.size + 1 < _; omega) _
                · exact (((hb.alloc (by omega) _).drew).trans (hb6.mono (by omega))).setCell (by show w.heap.size + 1 ≤ w.heap.size + 1; omega) _
              case measure => simp [intOf]; omega
          · rw [if_neg h24] at hspec
            have hnone : decGo r = none := by rw [hspec]; rfl
            have hres : decC (g :: r) = (0, [], 21) := by rw [HD.out, hnone]
            have hd24 : decide ((16777216 : Int) ≤ U x) = true := by simp; omega
            have HRES := Lib.hid hres
            have r0 : wr.cell? ⟨w.heap.size, 0, none⟩ = some (.int .i64 0) := R.cell 0 _ rfl
            have r1 : wr.cell? ⟨w.heap.size, 1, none⟩ = some (.slice none 0 0) := R.cell 1 _ rfl
            have fr5 := R.free
            clear hspec hnone hres hx hK hx' hK' hc1 hc2 h24 hown hacc
            go_wp2_with fail
            refine bodyPost_ret (v := .tuple #[codeV 0 none 0 0, .int .i64 21]) (by simp [results, Try.results18, go_sem, r0, r1]) rfl ?_
            rw [HRES.out]
            exact ⟨none, 0, rfl, Reads.nil, (hBr.setCell (by simp) _).setCell (by simp) _⟩
        · have hr0 : r.drop (2 * k) = [] := List.drop_eq_nil_of_le (by have := HL.out; rw [List.length_cons] at this; omega)
          rw [hr0, show decGo [] = some [] from rfl] at hspec
          have hsome : decGo r = some acc := by rw [hspec]; simp
          have hjn : j = n := by omega
          have r0 : wr.cell? ⟨w.heap.size, 0, none⟩ = some (.int .i64 0) := R.cell 0 _ rfl
          have r1 : wr.cell? ⟨w.heap.size, 1, none⟩ = some (.slice none 0 0) := R.cell 1 _ rfl
          have c0 : wr.cell? ⟨w.heap.size + 1, 0, none⟩ = some (.int .i64 (U g)) := C.cell 0 _ rfl
          have c1 : wr.cell? ⟨w.heap.size + 1, 1, none⟩ = some (.slice A' k c') := C.cell 1 _ rfl
          obtain ⟨A3, c3, e3, hr3⟩ := Reads.own hown
          injection e3 with x1 x2 x3
          subst x1 x3
          cases hf : formedC (U g) acc
          · have hres : decC (g :: r) = (0, [], 21) := by rw [HD.out, hsome]; dsimp only; rw [hf]; rfl
            have HRES := Lib.hid hres
            have HF := Lib.hid hf
            clear hres hf hsome hspec hr0 hacc hown hlt hj
            go_wp2_with fail
            refine (rformed_any _ _ _ _ _ _ hr3).mono ?_
            rintro e w5 ⟨rfl, hb5⟩
            rw [HF.out]
            have R5 := R.below hb5
            have r0' : w5.cell? ⟨w.heap.size, 0, none⟩ = some (.int .i64 0) := R5.cell 0 _ rfl
            have r1' : w5.cell? ⟨w.heap.size, 1, none⟩ = some (.slice none 0 0) := R5.cell 1 _ rfl
            have fr5 := R5.free
            go_wp2_with fail
            refine bodyPost_ret (v := .tuple #[codeV 0 none 0 0, .int .i64 21]) (by simp [results, Try.results18, go_sem, r0', r1']) rfl ?_
            rw [HRES.out]
            exact ⟨none, 0, rfl, Reads.nil, ((keep_below hb5 hBr).setCell (by simp) _).setCell (by simp) _⟩
          · have hres : decC (g :: r) = (U g, acc, 0) := by rw [HD.out, hsome]; dsimp only; rw [if_pos hf]
            have HRES := Lib.hid hres
            have HF := Lib.hid hf
            have HACC := Lib.hid hacc
            clear hres hf hsome hspec hr0 hacc hlt hj
            go_wp2_with fail
            refine (rformed_any _ _ _ _ _ _ hr3).mono ?_
            rintro e w5 ⟨rfl, hb5⟩
            rw [HF.out]
            have R5 := R.below hb5
            have r0' : w5.cell? ⟨w.heap.size, 0, none⟩ = some (.int .i64 0) := R5.cell 0 _ rfl
            have r1' : w5.cell? ⟨w.heap.size, 1, none⟩ = some (.slice none 0 0) := R5.cell 1 _ rfl
            have fr5 := R5.free
            have C5 := C.below hb5
            have c0' : w5.cell? ⟨w.heap.size + 1, 0, none⟩ = some (.int .i64 (U g)) := C5.cell 0 _ rfl
            have c1' : w5.cell? ⟨w.heap.size + 1, 1, none⟩ = some (.slice A' k c') := C5.cell 1 _ rfl
            have own5 := ownsRow_setCell_below (ownsRow_setCell_below (own_keep hown hb5) (a := ⟨w.heap.size, 0, none⟩) (by show w.heap.size < _; omega) (.int .i64 (U g))) (a := ⟨w.heap.size, 1, none⟩) (by show w.heap.size < _; omega) (.slice A' k c')
            obtain ⟨A4, c4, e4, hr4⟩ := Reads.own own5
            injection e4 with x1 x2 x3
            subst x1 x3
            have HR4 := Lib.hid hr4
            clear own5 hr4 hown
            go_wp2_with fail
            refine bodyPost_ret (v := .tuple #[codeV (U g) A' k c', .int .i64 0]) (by simp [results, Try.results18, go_sem, r0', r1']) rfl ?_
            rw [HRES.out]
            exact ⟨A', c', by rw [HACC.out], by rw [HACC.out]; exact HR4.out, ((keep_below hb5 hBr).setCell (by simp) _).setCell (by simp) _⟩
    · have hres : decC (g :: r) = (0, [], 21) := by unfold decC; dsimp only; rw [if_neg (fun h => hg3 h.2)]
      rw [hres]
      have hd : decide ((3 : Int) < U g) = true := by simp; omega
      have hne : ((n : Int) % 2 != 1) = false := by simp; omega
      have hp : 0 < n := by omega
      clear hres hlen hg3
      go_enter Try.func18, Try.ntmps18
      go_wp2_with fail
      refine bodyPost_ret (v := .tuple #[codeV 0 none 0 0, .int .i64 21]) (by simp [results, Try.results18, go_sem, r0, r1]) rfl ?_
      exact ⟨none, 0, rfl, Reads.nil, hW⟩
  · have hres : decC l = (0, [], 21) := by
      unfold decC
      cases l with
      | nil => rfl
      | cons a r => dsimp only; rw [if_neg (fun h => hodd (by rw [← hlen]; exact h.1))]
    rw [hres]
    have ho : ((n : Int) % 2 != 1) = true := by simp; omega
    clear hres hlen hodd
    go_enter Try.func18, Try.ntmps18
    go_wp2_with fail
    refine bodyPost_ret (v := .tuple #[codeV 0 none 0 0, .int .i64 21]) (by simp [results, Try.results18, go_sem, r0, r1]) rfl ?_
    exact ⟨none, 0, rfl, Reads.nil, hW⟩
end Go.Proofs.Ytpmdgmgcbminaaa

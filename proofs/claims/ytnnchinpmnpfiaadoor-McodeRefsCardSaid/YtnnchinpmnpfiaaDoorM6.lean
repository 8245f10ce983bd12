/- The program's numbered and suits; Kinds at Return. -/
import Derived.Test.YtnnchinpmnpfiaaDoorM5
namespace Go.Proofs.YtnnchinpmnpfiaaDoor
open Go.ChangeShapes Go.WideShapes Go.RowKit Words

abbrev prV (S : Option Addr) (ns cs : Nat) (F : Option Addr) (nf cf : Nat) (N : Option Addr) (nn cn : Nat) : Value := .agg #[.slice S ns cs, .slice F nf cf, .slice N nn cn]
def numB (x : NI) : Bool := byteB x.a && (byteB x.b && byteB x.c)
theorem numbered_any (x : NI) (w : World) : Calls Tryd.prog 64 #[insV x] w fun e w' => e = .returned (.bool (numB x)) ∧ Below w.heap.size w w' := by
  obtain ⟨op, a, b, c, k⟩ := x
  have hB : Below w.heap.size w ((w.alloc (.cells #[.int .i64 op, .int .i64 a, .int .i64 b, .int .i64 c, .int .u64 (U k)] 53)).alloc (.cells #[.int .i64 a, .int .i64 b, .int .i64 c] 3)) := keep_alloc (keep_alloc (Below.refl _ _) _) _
  have hr := Reads.freshAt (w.alloc (.cells #[.int .i64 op, .int .i64 a, .int .i64 b, .int .i64 c, .int .u64 (U k)] 53)) #[.int .i64 a, .int .i64 b, .int .i64 c] 3 1 3 (([a, b, c] : List Int).flatMap intCells) (w.heap.size + 1) (by simp) rfl rfl (by decide)
  go_enter Tryd.func64, Tryd.ntmps64
  go_wp2_with fail
  refine (allB_any _ 3 3 [a, b, c] _ hr (by omega)).mono ?_
  rintro e w2 ⟨rfl, hb2⟩
  go_wp2_with fail
  go_ret
  exact ⟨rfl, keep_below hb2 hB⟩
/-- locals and kinds come back -/
def RetK (w : World) (ls ks : List Int) (ok : Bool) (e : Ending) (w' : World) : Prop :=
  ∃ A c B d, e = .returned (.tuple #[.slice A ls.length c, .slice B ks.length d, .bool ok]) ∧ Reads w' w'.heap.size 1 A ls.length c (ls.flatMap intCells) ∧ Reads w' w'.heap.size 1 B ks.length d (ks.flatMap intCells) ∧ Below w.heap.size w w'
/-- do the locals have these kinds? -/
def suitF (locs : List Int) : List Int → List Int → Bool
  | n :: r, k :: s => decide (locs[n.toNat]? = some k) && suitF locs r s
  | _, _ => true
theorem suitF_no {locs : List Int} : ∀ {ls ks : List Int} {i : Nat} {n k : Int}, ls[i]? = some n → ks[i]? = some k → locs[n.toNat]? ≠ some k → suitF locs ls ks = false
  | x :: r, y :: s, 0, n, k, h1, h2, h => by
    cases h1; cases h2
    unfold suitF
    rw [decide_eq_false h]; rfl
  | x :: r, y :: s, i + 1, n, k, h1, h2, h => by
    unfold suitF
    rw [suitF_no (ls := r) (ks := s) (i := i) (by simpa using h1) (by simpa using h2) h, Bool.and_false]
theorem suitF_yes {locs : List Int} : ∀ {ls ks : List Int}, (∀ (i : Nat) (n k : Int), ls[i]? = some n → ks[i]? = some k → locs[n.toNat]? = some k) → suitF locs ls ks = true
  | [], _, _ => by unfold suitF; rfl
  | _ :: _, [], _ => by unfold suitF; rfl
  | x :: r, y :: s, h => by
    unfold suitF
    rw [decide_eq_true (h 0 x y rfl rfl), suitF_yes (ls := r) (ks := s) (fun i n k h1 h2 => h (i + 1) n k (by simpa using h1) (by simpa using h2))]; rfl

set_option linter.unusedSimpArgs false in
set_option maxRecDepth 100000 in
set_option maxHeartbeats 4000000 in
theorem suits_any (S : Option Addr) (ns cs : Nat) (F : Option Addr) (nf cf : Nat) (N : Option Addr) (nn cn : Nat) (p : Int) (A : Option Addr) (n c : Nat) (r : Int) (B : Option Addr) (m d : Nat) (x : NI) (locs ls ks : List Int) (ok : Bool) (w : World)
    (hA : Reads w w.heap.size 1 A n c (locs.flatMap intCells)) (hlk : ls.length = ks.length) (hll : ls.length ≤ 1000)
    (hneg : numB x = true → ok = true → ∀ z ∈ ls, 0 ≤ z)
    (hK : ∀ wq, Below w.heap.size w wq → Calls Tryd.prog 12 #[prV S ns cs F nf cf N nn cn, fnV p A n c r B m d, insV x] wq (RetK wq ls ks ok)) :
    Calls Tryd.prog 50 #[prV S ns cs F nf cf N nn cn, fnV p A n c r B m d, insV x] w fun e w' => e = .returned (.bool (ok && (numB x && suitF locs ls ks))) ∧ Below w.heap.size w w' := by
  have hlen := hA.length (f := intCells) (fun _ => rfl) (by omega)
  have HL := Lib.hid hlen
  obtain ⟨op, a, b, c', k⟩ := x
  have hB0 : Below w.heap.size w (((w.alloc (.cells #[.slice S ns cs, .slice F nf cf, .slice N nn cn] 37)).alloc (.cells #[.int .i64 p, .slice A n c, .int .i64 r, .slice B m d] 49)).alloc (.cells #[.int .i64 op, .int .i64 a, .int .i64 b, .int .i64 c', .int .u64 (U k)] 53)) := keep_alloc (keep_alloc (keep_alloc (Below.refl _ _) _) _) _
  have X0 := ((Blk.new w #[.slice S ns cs, .slice F nf cf, .slice N nn cn] 37).alloc (.cells #[.int .i64 p, .slice A n c, .int .i64 r, .slice B m d] 49)).alloc (.cells #[.int .i64 op, .int .i64 a, .int .i64 b, .int .i64 c', .int .u64 (U k)] 53)
  have X1 := (Blk.newAt (w.alloc (.cells #[.slice S ns cs, .slice F nf cf, .slice N nn cn] 37)) #[.int .i64 p, .slice A n c, .int .i64 r, .slice B m d] 49 (w.heap.size + 1) (by simp)).alloc (.cells #[.int .i64 op, .int .i64 a, .int .i64 b, .int .i64 c', .int .u64 (U k)] 53)
  have X2 := Blk.newAt ((w.alloc (.cells #[.slice S ns cs, .slice F nf cf, .slice N nn cn] 37)).alloc (.cells #[.int .i64 p, .slice A n c, .int .i64 r, .slice B m d] 49)) #[.int .i64 op, .int .i64 a, .int .i64 b, .int .i64 c', .int .u64 (U k)] 53 (w.heap.size + 1 + 1) (by simp)
  have HLK := Lib.hid hlk
  clear hlen hlk
  go_enter Tryd.func50, Tryd.ntmps50
  go_wp2_with fail
  refine (hK _ hB0).mono ?_
  rintro e w2 ⟨A2, c2, B2, d2, rfl, hr1, hr2, hb2⟩
  have hW2 := keep_below hb2 hB0
  have Y1 := X1.below hb2
  have Y2 := X2.below hb2
  obtain ⟨g, hg⟩ : ∃ g, w.heap.size + 1 = g := ⟨_, rfl⟩
  rw [hg] at Y1 Y2 ⊢
  have x0 := Y2.cell 0 _ rfl
  have x1 := Y2.cell 1 _ rfl
  have x2 := Y2.cell 2 _ rfl
  have x3 := Y2.cell 3 _ rfl
  have x4 := Y2.cell 4 _ rfl
  clear hg X0 X1 X2 hb2 hB0 hK
  cases ok with
  | false =>
    go_wp2_with fail
    go_ret
    exact ⟨rfl, hW2⟩
  | true =>
    go_wp2_with fail
    refine (numbered_any ⟨op, a, b, c', k⟩ _).mono ?_
    cases hnum : numB ⟨op, a, b, c', k⟩ with
    | false =>
      have HN := Lib.hid hnum
      clear hnum
      rintro e w3 ⟨rfl, hb3⟩
      clear x0 x1 x2 x3 x4
      go_wp2_with fail
      go_ret
      exact ⟨by rw [HN.out]; rfl, keep_below hb3 hW2⟩
    | true =>
      have hnz := hneg hnum (by trivial)
      have HNZ := Lib.hid hnz
      have HN := Lib.hid hnum
      clear hnum hnz hneg
      rintro e w3 ⟨rfl, hb3⟩
      have hW3 := keep_below hb3 hW2
      have Z1 := Y1.below hb3
      have hs1 := hr1.belowU hb3
      have hs2 := hr2.belowU hb3
      have hAA := hA.belowU hW3
      clear x0 x1 x2 x3 x4 hb3 hr1 hr2 Y1 Y2 hW2 hA
      obtain ⟨q, hq⟩ : ∃ q, ls.length = q := ⟨_, rfl⟩
      have hq2 : ks.length = q := by have := HLK.out; omega
      rw [hq] at hs1 hll
      rw [hq2] at hs2
      rw [hq, hq2]
      have HQ := Lib.hid hq
      have HQ2 := Lib.hid hq2
      clear hq hq2
      go_wp2_with fail
      go_loopw [29] (fun x wq => ∃ i : Nat, i ≤ q ∧ x = .int .i64 i ∧ (∀ j : Nat, j < i → ∀ (z y : Int), ls[j]? = some z → ks[j]? = some y → locs[z.toNat]? = some y) ∧ Below w3.heap.size w3 wq) (fun x _ => q - (intOf x).toNat)
      case atStart => exact ⟨0, Nat.zero_le _, rfl, (fun j hj => by omega), Below.refl _ _⟩
      case round =>
        obtain ⟨i, hi, rfl, hst, hb⟩ := hrel
        have HST := Lib.hid hst
        clear hst
        have Zr := Z1.below hb
        have f1 := Zr.cell 1 _ rfl
        by_cases hlt : i < q
        · obtain ⟨b1, o1, z, rfl, hbb1, hz, hc1⟩ := (hs1.belowU hb).elem (f := intCells) (fun _ => rfl) (by omega) hlt
          obtain ⟨b2, o2, y, rfl, hbb2, hy, hc2⟩ := (hs2.belowU hb).elem (f := intCells) (fun _ => rfl) (by omega) hlt
          have d0 := hc1 0 _ rfl
          have e0 := hc2 0 _ rfl
          rw [Nat.mul_one, Nat.add_zero] at d0 e0
          have hz0 := HNZ.out z (List.mem_of_getElem? hz)
          obtain ⟨zn, rfl⟩ : ∃ zn : Nat, z = zn := ⟨z.toNat, by omega⟩
          have HZ := Lib.hid hz
          have HY := Lib.hid hy
          have hk0 : (0 : Int) ≤ (i : Int) := by omega
          have hk1 : (i : Int) < (q : Int) := by omega
          have hd : decide ((i : Int) < (q : Int)) = true := decide_eq_true hk1
          have hd2 : decide (i < q) = true := decide_eq_true hlt
          have hw : IntKind.i64.wrap ((i : Int) + 1) = (i : Int) + 1 := IntWalk.i64_in _ (by omega)
          clear hz hy hc1 hc2 hz0
          by_cases hzn : zn < n
          · obtain ⟨b3, o3, u, rfl, hbb3, hu, hc3⟩ := (hAA.belowU hb).elem (f := intCells) (fun _ => rfl) (by omega) hzn
            have u0 := hc3 0 _ rfl
            rw [Nat.mul_one, Nat.add_zero] at u0
            have HU := Lib.hid hu
            have hz1 : decide ((n : Int) ≤ (zn : Int)) = false := decide_eq_false (by omega)
            have hz2 : decide (n ≤ zn) = false := decide_eq_false (by omega)
            have hz3 : (0 : Int) ≤ (zn : Int) := by omega
            have hz4 : (zn : Int) < (n : Int) := by omega
            obtain ⟨ne, hne⟩ : ∃ ne, (u != y) = ne := ⟨_, rfl⟩
            have HNE := Lib.hid hne
            clear hu hc3
            go_upto_region 7 with fail
            have F1 := Lag.cell f1
            have E0 := Lag.cell e0
            have U0 := Lag.cell u0
            clear f1 d0 e0 u0
            refine wp_region_lag (by kernel_rfl) (by kernel_rfl) ?_
            repeat (go_big_quiet_step (fail))
            refine wpQuiet_nil ?_
            rintro w5 ⟨uu, hu⟩
            have hb5 := keep_below (hu ▸ uu.h : Below wr.heap.size wr w5) hb
            clear hu uu F1 E0 U0 hne
            cases ne with
            | true =>
              have HV := Lib.hid (suitF_no (locs := locs) HZ.out HY.out (by rw [Int.toNat_natCast, HU.out]; intro e; have := HNE.out; rw [Option.some.inj e] at this; simp at this))
              go_wp2_with fail
              go_ret
              exact ⟨by rw [HN.out, HV.out]; rfl, keep_below hb5 hW3⟩
            | false =>
              go_wp2_with fail
              go_roundw
              case rel =>
                refine ⟨i + 1, by omega, by go_num, fun j hj z y hz hy => ?_, hb5⟩
                by_cases e : j < i
                · exact HST.out j e z y hz hy
                · obtain rfl : j = i := by omega
                  have e1 := Option.some.inj (hz.symm.trans HZ.out)
                  have e2 := Option.some.inj (hy.symm.trans HY.out)
                  subst e1 e2
                  rw [Int.toNat_natCast, HU.out]
                  have := HNE.out
                  simp at this
                  rw [this]
              case measure => simp [intOf]; omega
          · have hz1 : decide ((n : Int) ≤ (zn : Int)) = true := decide_eq_true (by omega)
            have hz2 : decide (n ≤ zn) = true := decide_eq_true (by omega)
            have HV := Lib.hid (suitF_no (locs := locs) HZ.out HY.out (by rw [Int.toNat_natCast, List.getElem?_eq_none (by rw [HL.out]; omega)]; exact fun e => by cases e))
            go_upto_region 7 with fail
            have F1 := Lag.cell f1
            clear f1 d0 e0
            refine wp_region_lag (by kernel_rfl) (by kernel_rfl) ?_
            repeat (go_big_quiet_step (fail))
            refine wpQuiet_nil ?_
            rintro w5 ⟨uu, hu⟩
            have hb5 := keep_below (hu ▸ uu.h : Below wr.heap.size wr w5) hb
            clear hu uu F1
            go_wp2_with fail
            go_ret
            exact ⟨by rw [HN.out, HV.out]; rfl, keep_below hb5 hW3⟩
        · have hiq : i = q := by omega
          subst hiq
          have hd : decide ((i : Int) < (i : Int)) = false := by simp
          have hd2 : decide (i < i) = false := by simp
          have HV := Lib.hid (suitF_yes (locs := locs) (ls := ls) (ks := ks) (fun j z y hz hy => HST.out j (by have := (List.getElem?_eq_some_iff.1 hz).1; have := HQ.out; omega) z y hz hy))
          go_wp2_with fail
          go_ret
          exact ⟨by rw [HN.out, HV.out]; rfl, keep_below hb hW3⟩
end Go.Proofs.YtnnchinpmnpfiaaDoor

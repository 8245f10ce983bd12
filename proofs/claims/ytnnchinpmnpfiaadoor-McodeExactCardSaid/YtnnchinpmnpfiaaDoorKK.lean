/- How made programs are made: instruction. PRINTED BY A PROGRAM (mk_made5.py). -/
import Derived.Test.YtnnchinpmnpfiaaDoorKJ
namespace Go.Proofs.YtnnchinpmnpfiaaDoor
open Go.ChangeShapes Go.WideShapes Go.RowKit Words

set_option linter.unusedSimpArgs false in
set_option linter.unusedVariables false in
set_option maxRecDepth 100000 in
set_option maxHeartbeats 20000000 in
theorem instruction_any (g t : Nat) (S : Option Addr) (ns cs : Nat) (F : Option Addr) (nf cf : Nat) (N : Option Addr) (nn cn : Nat) (fcs : List FC) (fns : List Fn) (nats : List Int) (p : Int) (A : Option Addr) (n c : Nat) (r : Int) (B : Option Addr) (m d : Nat) (gl : List Int) (pc cnt : Nat) (w : World)
    (hT : TapeAt w g t) (ht : t ≤ 800000) (hA : Reads w w.heap.size 1 A n c (gl.flatMap intCells)) (hF : FarA g n A) (hH : HeadOk p gl r) (hP : ProgIn w g F nf cf N nn cn fcs fns nats) (hns : 1 ≤ ns) (hns3 : ns ≤ 3) (hpc : pc ≤ cnt) (hcnt : cnt ≤ 30) :
    Calls Tryd.prog 56 #[.pointer (some ⟨g, 0, none⟩), prV S ns cs F nf cf N nn cn, fnV p A n c r B m d, .int .i64 pc, .int .i64 cnt] w (RetInstr w g t ns (cnt + 1) fns nats gl r) := by
  have hgw := hT.lt
  have hB0 : Below w.heap.size w ((((w.alloc (.cells #[.pointer (some ⟨g, 0, none⟩)] 62)).alloc (.cells #[.slice S ns cs, .slice F nf cf, .slice N nn cn] 26)).alloc (.cells #[.int .i64 p, .slice A n c, .int .i64 r, .slice B m d] 44)).alloc (.cells #[.int .i64 0, .int .i64 0, .int .i64 0, .int .i64 0, .int .u64 0] 55)) := keep_alloc (keep_alloc (keep_alloc (keep_alloc (Below.refl _ _) _) _) _) _
  have hI0 : ISt w ((((w.alloc (.cells #[.pointer (some ⟨g, 0, none⟩)] 62)).alloc (.cells #[.slice S ns cs, .slice F nf cf, .slice N nn cn] 26)).alloc (.cells #[.int .i64 p, .slice A n c, .int .i64 r, .slice B m d] 44)).alloc (.cells #[.int .i64 0, .int .i64 0, .int .i64 0, .int .i64 0, .int .u64 0] 55)) g t w.heap.size #[.slice S ns cs, .slice F nf cf, .slice N nn cn] #[.int .i64 p, .slice A n c, .int .i64 r, .slice B m d] := ⟨hT.below hB0, only_refl_below g hB0,
    (((Blk.new w #[.pointer (some ⟨g, 0, none⟩)] 62).alloc _).alloc _).alloc _,
    ((Blk.newAt (w.alloc (.cells #[.pointer (some ⟨g, 0, none⟩)] 62)) #[.slice S ns cs, .slice F nf cf, .slice N nn cn] 26 (w.heap.size + 1) (by simp)).alloc _).alloc _,
    (Blk.newAt ((w.alloc (.cells #[.pointer (some ⟨g, 0, none⟩)] 62)).alloc (.cells #[.slice S ns cs, .slice F nf cf, .slice N nn cn] 26)) #[.int .i64 p, .slice A n c, .int .i64 r, .slice B m d] 44 (w.heap.size + 1 + 1) (by simp)).alloc _,
    Blk.newAt (((w.alloc (.cells #[.pointer (some ⟨g, 0, none⟩)] 62)).alloc (.cells #[.slice S ns cs, .slice F nf cf, .slice N nn cn] 26)).alloc (.cells #[.int .i64 p, .slice A n c, .int .i64 r, .slice B m d] 44)) #[.int .i64 0, .int .i64 0, .int .i64 0, .int .i64 0, .int .u64 0] 55 (w.heap.size + 1 + 1 + 1) (by simp)⟩
  have h7 := hH.n7
  have HI := Lib.hid (show ∀ wq tq, ISt w wq g tq w.heap.size #[.slice S ns cs, .slice F nf cf, .slice N nn cn] #[.int .i64 p, .slice A n c, .int .i64 r, .slice B m d] → tq ≤ 900000 → Calls Tryd.prog 69 #[.pointer (some ⟨w.heap.size, 0, none⟩), .pointer (some ⟨w.heap.size + 1 + 1, 0, none⟩)] wq (RetPick wq g tq gl 1) from fun wq tq hq h9 => clo1_any w.heap.size (w.heap.size + 1 + 1) g tq p A n c r B m d gl wq hq.b5 hq.b7 hq.tape h9 (hA.tape hF hq.only) hF hH)
  have HR := Lib.hid (show ∀ wq tq, ISt w wq g tq w.heap.size #[.slice S ns cs, .slice F nf cf, .slice N nn cn] #[.int .i64 p, .slice A n c, .int .i64 r, .slice B m d] → tq ≤ 900000 → Calls Tryd.prog 70 #[.pointer (some ⟨w.heap.size, 0, none⟩), .pointer (some ⟨w.heap.size + 1 + 1, 0, none⟩)] wq (RetPick wq g tq gl 2) from fun wq tq hq h9 => clo2_any w.heap.size (w.heap.size + 1 + 1) g tq p A n c r B m d gl wq hq.b5 hq.b7 hq.tape h9 (hA.tape hF hq.only) hF hH)
  obtain ⟨s, hs⟩ : ∃ s, w.heap.size = s := ⟨_, rfl⟩
  have z5 := hI0.b5.cell 0 _ rfl
  have HS := Lib.hid hs
  have HNX := Lib.hid (show ∀ wq tq (k : Int), TapeAt wq g tq → tq ≤ 900000 → k ≤ 1000 → Calls Tryd.prog 39 #[.pointer (some ⟨g, 0, none⟩), .int .i64 k] wq (RetNext wq g tq k) from fun wq tq k hq h9 hk => next_any g tq k wq hq (by omega) (by omega))
  clear hs
  go_enter Tryd.func56, Tryd.ntmps56
  go_upto_region 3 with fail
  obtain ⟨w1, hw1⟩ : ∃ w1, (((w.alloc (.cells #[.pointer (some ⟨g, 0, none⟩)] 62)).alloc (.cells #[.slice S ns cs, .slice F nf cf, .slice N nn cn] 26)).alloc (.cells #[.int .i64 p, .slice A n c, .int .i64 r, .slice B m d] 44)).alloc (.cells #[.int .i64 0, .int .i64 0, .int .i64 0, .int .i64 0, .int .u64 0] 55) = w1 := ⟨_, rfl⟩
  rw [hw1] at hI0 z5 ⊢
  have hz1 : w1.heap.size = w.heap.size + 4 := by rw [← hw1]; simp
  have hs := HS.out
  rw [hs] at hI0 z5 hz1 hgw ⊢
  have HI1 := HI.out
  have HR1 := HR.out
  rw [hs] at HI1 HR1
  have HI' := Lib.hid HI1
  have HR' := Lib.hid HR1
  clear hw1 hs HI1 HR1 HI HR hB0
  have hBx : Below w1.heap.size w1 (w1.alloc (.cells #[.int .i64 1, .int .i64 1, .int .i64 1, .int .i64 2, .int .i64 3, .int .i64 4, .int .i64 5, .int .i64 6, .int .i64 7, .int .i64 8, .int .i64 9, .int .i64 10, .int .i64 12, .int .i64 12, .int .i64 13, .int .i64 13, .int .i64 13, .int .i64 14, .int .i64 15, .int .i64 15, .int .i64 16, .int .i64 17, .int .i64 17, .int .i64 18, .int .i64 18, .int .i64 18, .int .i64 19, .int .i64 19, .int .i64 20, .int .i64 20, .int .i64 20, .int .i64 21, .int .i64 22, .int .i64 22, .int .i64 22, .int .i64 23, .int .i64 23, .int .i64 23, .int .i64 24, .int .i64 11] 3)) := keep_alloc (Below.refl _ _) _
  have RX := Reads.freshAt w1 #[.int .i64 1, .int .i64 1, .int .i64 1, .int .i64 2, .int .i64 3, .int .i64 4, .int .i64 5, .int .i64 6, .int .i64 7, .int .i64 8, .int .i64 9, .int .i64 10, .int .i64 12, .int .i64 12, .int .i64 13, .int .i64 13, .int .i64 13, .int .i64 14, .int .i64 15, .int .i64 15, .int .i64 16, .int .i64 17, .int .i64 17, .int .i64 18, .int .i64 18, .int .i64 18, .int .i64 19, .int .i64 19, .int .i64 20, .int .i64 20, .int .i64 20, .int .i64 21, .int .i64 22, .int .i64 22, .int .i64 22, .int .i64 23, .int .i64 23, .int .i64 23, .int .i64 24, .int .i64 11] 3 1 40 (opsL.flatMap intCells) (s + 4) hz1 rfl rfl (by decide)
  have hI1 := hI0.below hBx
  have z5' := hI1.b5.cell 0 _ rfl
  have HN1 := Lib.hid (HNX.out _ _ 40 hI1.tape (by omega) (by omega))
  clear z5 hBx
  go_wp2_with fail
  refine HN1.out.mono ?_
  clear HN1
  rintro e w2 ⟨r0, rfl, hr0, hr40, t2, ht2, hT2, hg2⟩
  obtain ⟨rn, rfl⟩ : ∃ rn : Nat, r0 = rn := ⟨r0.toNat, by omega⟩
  have hI2 := hI1.step hT2 hg2 hgw
  have RX2 := RX.tape (g := g) (fun b off _ e => by cases e; omega) hg2
  have hrn : rn < 40 := by omega
  obtain ⟨bq, oq, op, hbq, -, hop, hcq⟩ := RX2.elem (f := intCells) (fun _ => rfl) (by omega) hrn
  cases hbq
  have q0 := hcq 0 _ rfl
  simp only [Nat.mul_one, Nat.add_zero, Nat.zero_add] at q0
  have HOP := Lib.hid (ops_in hop)
  have rr0 : (0 : Int) ≤ (rn : Int) := by omega
  have rr1 : (rn : Int) < 40 := by omega
  clear RX RX2 hcq hop hI1 z5' hI0 hr0 hr40 hT2 hg2
  go_upto_region 4 with fail
  have HP := Lib.hid hP
  have HA := Lib.hid hA
  have HH := Lib.hid hH
  have HFA := Lib.hid hF
  have z5 := hI2.b5.cell 0 _ rfl
  have HI2 := Lib.hid hI2
  have H7 := Lib.hid h7
  clear q0 hP hA hH hF hT hI2 h7
  go_wp2_with fail
  refine (HI'.out _ _ HI2.out (by omega)).mono ?_
  rintro e w3 ⟨va, rfl, hva, t3, ht3, hT3, hg3⟩
  have HI3 := Lib.hid (HI2.out.step hT3 hg3 hgw)
  have Hva := Lib.hid hva
  clear hT3 hg3 hva z5
  have z5 := HI3.out.b5.cell 0 _ rfl
  go_wp2_with fail
  refine (HI'.out _ _ HI3.out (by omega)).mono ?_
  rintro e w4 ⟨vb, rfl, hvb, t4, ht4, hT4, hg4⟩
  have HI4 := Lib.hid (HI3.out.step hT4 hg4 hgw)
  have Hvb := Lib.hid hvb
  clear hT4 hg4 hvb z5
  have z5 := HI4.out.b5.cell 0 _ rfl
  go_wp2_with fail
  refine (HI'.out _ _ HI4.out (by omega)).mono ?_
  rintro e w5 ⟨vc, rfl, hvc, t5, ht5, hT5, hg5⟩
  have HI5 := Lib.hid (HI4.out.step hT5 hg5 hgw)
  have Hvc := Lib.hid hvc
  clear hT5 hg5 hvc z5
  have z5 := HI5.out.b5.cell 0 _ rfl
  go_upto_region 5 with fail
  have hBn : Below w5.heap.size w5 (w5.alloc (.cells #[.int .i64 op, .int .i64 va, .int .i64 vb, .int .i64 vc, .int .u64 0] 55)) := keep_alloc (Below.refl _ _) _
  have HI6 := Lib.hid (HI5.out.below hBn)
  have HX6 := Lib.hid (Blk.new w5 #[.int .i64 op, .int .i64 va, .int .i64 vb, .int .i64 vc, .int .u64 0] 55)
  have hxb := HI5.out.b10.lt
  obtain ⟨xb, hxbe⟩ : ∃ xb, w5.heap.size = xb := ⟨_, rfl⟩
  obtain ⟨w6, hw6⟩ : ∃ w6, w5.alloc (.cells #[.int .i64 op, .int .i64 va, .int .i64 vb, .int .i64 vc, .int .u64 0] 55) = w6 := ⟨_, rfl⟩
  rw [hw6] at HI6 HX6 ⊢
  rw [hxbe] at HX6 hxb ⊢
  clear hw6 hxbe hBn z5
  obtain ⟨t6, ht6⟩ : ∃ t6, t5 = t6 := ⟨_, rfl⟩
  rw [ht6] at HI6
  have hsw : w.heap.size ≤ s := by have := HS.out; omega
  go_upto_block 0 with fail
  go_cut [15] from 32 to 202 (fun s15 wx => ∃ (x : NI) (tq : Nat), ISt w wx g tq s #[.slice S ns cs, .slice F nf cf, .slice N nn cn] #[.int .i64 p, .slice A n c, .int .i64 r, .slice B m d] ∧ Blk wx xb 55 #[.int .i64 x.op, .int .i64 x.a, .int .i64 x.b, .int .i64 x.c, .int .u64 (U x.k)] ∧ suitM ns (cnt + 1) fns nats gl r x = true ∧ x.ok64 ∧ tq ≤ t + 12)
  case rest => as_aux_lemma =>
    obtain ⟨x, tq, hIq, hXq, hsu, hok, htq⟩ := hcut
    obtain ⟨op', a', b', c', k'⟩ := x
    dsimp only at hXq
    obtain ⟨kv, hkv⟩ : ∃ kv, U k' = kv := ⟨_, rfl⟩
    rw [hkv] at hXq
    have x0 := hXq.cell 0 _ rfl
    have x1 := hXq.cell 1 _ rfl
    have x2 := hXq.cell 2 _ rfl
    have x3 := hXq.cell 3 _ rfl
    have x4 := hXq.cell 4 _ rfl
    have y0 := hIq.b10.cell 0 _ rfl
    have y1 := hIq.b10.cell 1 _ rfl
    have y2 := hIq.b10.cell 2 _ rfl
    have y3 := hIq.b10.cell 3 _ rfl
    have y4 := hIq.b10.cell 4 _ rfl
    have yf := hIq.b10.free
    have X10 := ((((hIq.b10.set 0 (.int .i64 op')).set 1 (.int .i64 a')).set 2 (.int .i64 b')).set 3 (.int .i64 c')).set 4 (.int .u64 kv)
    have q0 := X10.cell 0 _ rfl
    have q1 := X10.cell 1 _ rfl
    have q2 := X10.cell 2 _ rfl
    have q3 := X10.cell 3 _ rfl
    have q4 := X10.cell 4 _ rfl
    have HT := Lib.hid (hIq.fin hgw hsw (.int .i64 op') (.int .i64 a') (.int .i64 b') (.int .i64 c') (.int .u64 kv))
    have HSU := Lib.hid hsu
    have HOK := Lib.hid hok
    have HKV := Lib.hid hkv
    clear X10 hIq hXq hsu hok hkv
    go_wp2_with fail
    refine bodyPost_ret (v := .agg #[.int .i64 op', .int .i64 a', .int .i64 b', .int .i64 c', .int .u64 kv]) (by simp [results, Tryd.results56, go_sem, y0, y1, y2, y3, y4]) rfl ?_
    exact ⟨⟨op', a', b', c', k'⟩, by show _ = Ending.returned (.agg #[.int .i64 op', .int .i64 a', .int .i64 b', .int .i64 c', .int .u64 (U k')]); rw [HKV.out], HSU.out, HOK.out, tq, htq, HT.out.1, HT.out.2⟩
  case first =>
    have z5 := HI6.out.b5.cell 0 _ rfl
    have x0 := HX6.out.cell 0 _ rfl
    have x1 := HX6.out.cell 1 _ rfl
    have x2 := HX6.out.cell 2 _ rfl
    have x3 := HX6.out.cell 3 _ rfl
    have x4 := HX6.out.cell 4 _ rfl
    have xf := HX6.out.free
    rcases HOP.out with rfl | rfl | rfl | rfl | rfl | rfl | rfl | rfl | rfl | rfl | rfl | rfl | rfl | rfl | rfl | rfl | rfl | rfl | rfl | rfl | rfl | rfl | rfl | rfl
    · as_aux_lemma =>
        go_wp2_with fail
        refine (HNX.out _ _ 6 HI6.out.tape (by omega) (by omega)).mono ?_
        rintro e w7 ⟨vk, rfl, hvk0, hvk1, t7, ht7, hT7, hg7⟩
        have HI7 := Lib.hid (HI6.out.step hT7 hg7 hgw)
        have HX7 := Lib.hid (HX6.out.onlyN hg7 (by omega))
        clear hT7 hg7 z5 x0 x1 x2 x3 x4 xf
        have z5 := HI7.out.b5.cell 0 _ rfl
        have x0 := HX7.out.cell 0 _ rfl
        have x1 := HX7.out.cell 1 _ rfl
        have x2 := HX7.out.cell 2 _ rfl
        have x3 := HX7.out.cell 3 _ rfl
        have x4 := HX7.out.cell 4 _ rfl
        have xf := HX7.out.free
        have wv : IntKind.u64.wrap vk = vk := IntWalk.u64_in _ ⟨by omega, by omega⟩
        go_wp2_with fail
        have HI8 := Lib.hid (HI7.out.set hgw hsw (p := ⟨xb, 4, none⟩) hxb (.int .u64 vk))
        have HX8 := Lib.hid (show Blk (w7.setCell ⟨xb, 4, none⟩ (.int .u64 vk)) xb 55 #[.int .i64 1, .int .i64 va, .int .i64 vb, .int .i64 vc, .int .u64 vk] from (HX7.out.set 4 (.int .u64 vk)))
        obtain ⟨w8, hw8⟩ : ∃ w8, (w7.setCell ⟨xb, 4, none⟩ (.int .u64 vk)) = w8 := ⟨_, rfl⟩
        rw [hw8] at HI8 HX8 ⊢
        clear hw8 z5 x0 x1 x2 x3 x4 xf
        have z5 := HI8.out.b5.cell 0 _ rfl
        have x0 := HX8.out.cell 0 _ rfl
        have x1 := HX8.out.cell 1 _ rfl
        have x2 := HX8.out.cell 2 _ rfl
        have x3 := HX8.out.cell 3 _ rfl
        have x4 := HX8.out.cell 4 _ rfl
        have xf := HX8.out.free
        have HSU := Lib.hid (show suitM ns (cnt + 1) fns nats gl r ⟨1, va, vb, vc, BitVec.ofInt 64 vk⟩ = true from suit1 (x := 1) (by rfl) Hva.out Hvb.out.byte Hvc.out.byte)
        have HOK := Lib.hid (show NI.ok64 ⟨1, va, vb, vc, BitVec.ofInt 64 vk⟩ from ⟨by unfold I64; dsimp only; omega, Hva.out.i64, Hvb.out.i64, Hvc.out.i64⟩)
        have HU := Lib.hid (U_ofInt vk (by omega) (by omega))
        clear z5 x0 x1 x2 x3 x4 xf
        go_wp2_with fail
        go_meet
        exact ⟨⟨1, va, vb, vc, BitVec.ofInt 64 vk⟩, t7, HI8.out, by dsimp only; rw [HU.out]; exact HX8.out, HSU.out, HOK.out, by omega⟩
    · as_aux_lemma =>
        go_wp2_with fail
        refine (HNX.out _ _ 2 HI6.out.tape (by omega) (by omega)).mono ?_
        rintro e w7 ⟨vk, rfl, hvk0, hvk1, t7, ht7, hT7, hg7⟩
        have HI7 := Lib.hid (HI6.out.step hT7 hg7 hgw)
        have HX7 := Lib.hid (HX6.out.onlyN hg7 (by omega))
        clear hT7 hg7 z5 x0 x1 x2 x3 x4 xf
        have z5 := HI7.out.b5.cell 0 _ rfl
        have x0 := HX7.out.cell 0 _ rfl
        have x1 := HX7.out.cell 1 _ rfl
        have x2 := HX7.out.cell 2 _ rfl
        have x3 := HX7.out.cell 3 _ rfl
        have x4 := HX7.out.cell 4 _ rfl
        have xf := HX7.out.free
        by_cases hvk : vk = 0
        · have s0 : (vk == 0) = true := by simp [hvk]
          clear hvk
          go_wp2_with fail
          refine (HR'.out _ _ HI7.out (by omega)).mono ?_
          rintro e w8 ⟨vd, rfl, hvd, t8, ht8, hT8, hg8⟩
          have HI8 := Lib.hid (HI7.out.step hT8 hg8 hgw)
          have Hvd := Lib.hid hvd
          have HX8 := Lib.hid (HX7.out.onlyN hg8 (by omega))
          clear hT8 hg8 hvd z5 x0 x1 x2 x3 x4 xf
          have z5 := HI8.out.b5.cell 0 _ rfl
          have x0 := HX8.out.cell 0 _ rfl
          have x1 := HX8.out.cell 1 _ rfl
          have x2 := HX8.out.cell 2 _ rfl
          have x3 := HX8.out.cell 3 _ rfl
          have x4 := HX8.out.cell 4 _ rfl
          have xf := HX8.out.free
          go_wp2_with fail
          refine (HR'.out _ _ HI8.out (by omega)).mono ?_
          rintro e w9 ⟨ve, rfl, hve, t9, ht9, hT9, hg9⟩
          have HI9 := Lib.hid (HI8.out.step hT9 hg9 hgw)
          have Hve := Lib.hid hve
          have HX9 := Lib.hid (HX8.out.onlyN hg9 (by omega))
          clear hT9 hg9 hve z5 x0 x1 x2 x3 x4 xf
          have z5 := HI9.out.b5.cell 0 _ rfl
          have x0 := HX9.out.cell 0 _ rfl
          have x1 := HX9.out.cell 1 _ rfl
          have x2 := HX9.out.cell 2 _ rfl
          have x3 := HX9.out.cell 3 _ rfl
          have x4 := HX9.out.cell 4 _ rfl
          have xf := HX9.out.free
          go_wp2_with fail
          have HI10 := Lib.hid ((HI9.out.set hgw hsw (p := ⟨xb, 1, none⟩) hxb (.int .i64 vd)).set hgw hsw (p := ⟨xb, 2, none⟩) hxb (.int .i64 ve))
          have HX10 := Lib.hid (show Blk ((w9.setCell ⟨xb, 1, none⟩ (.int .i64 vd)).setCell ⟨xb, 2, none⟩ (.int .i64 ve)) xb 55 #[.int .i64 2, .int .i64 vd, .int .i64 ve, .int .i64 vc, .int .u64 0] from ((HX9.out.set 1 (.int .i64 vd)).set 2 (.int .i64 ve)))
          obtain ⟨w10, hw10⟩ : ∃ w10, ((w9.setCell ⟨xb, 1, none⟩ (.int .i64 vd)).setCell ⟨xb, 2, none⟩ (.int .i64 ve)) = w10 := ⟨_, rfl⟩
          rw [hw10] at HI10 HX10 ⊢
          clear hw10 z5 x0 x1 x2 x3 x4 xf
          have z5 := HI10.out.b5.cell 0 _ rfl
          have x0 := HX10.out.cell 0 _ rfl
          have x1 := HX10.out.cell 1 _ rfl
          have x2 := HX10.out.cell 2 _ rfl
          have x3 := HX10.out.cell 3 _ rfl
          have x4 := HX10.out.cell 4 _ rfl
          have xf := HX10.out.free
          have HSU := Lib.hid (show suitM ns (cnt + 1) fns nats gl r ⟨2, vd, ve, vc, BitVec.ofInt 64 0⟩ = true from suit_move (x := 2) Hvd.out Hve.out Hvc.out.byte)
          have HOK := Lib.hid (show NI.ok64 ⟨2, vd, ve, vc, BitVec.ofInt 64 0⟩ from ⟨by unfold I64; dsimp only; omega, Hvd.out.i64, Hve.out.i64, Hvc.out.i64⟩)
          have HU := Lib.hid (U_ofInt 0 (by omega) (by omega))
          clear z5 x0 x1 x2 x3 x4 xf
          go_wp2_with fail
          go_meet
          exact ⟨⟨2, vd, ve, vc, BitVec.ofInt 64 0⟩, t9, HI10.out, by dsimp only; rw [HU.out]; exact HX10.out, HSU.out, HOK.out, by omega⟩
        · have s0 : (vk == 0) = false := by simp [hvk]
          clear hvk
          go_wp2_with fail
          have HSU := Lib.hid (show suitM ns (cnt + 1) fns nats gl r ⟨2, va, vb, vc, BitVec.ofInt 64 0⟩ = true from suit_move (x := 1) Hva.out Hvb.out Hvc.out.byte)
          have HOK := Lib.hid (show NI.ok64 ⟨2, va, vb, vc, BitVec.ofInt 64 0⟩ from ⟨by unfold I64; dsimp only; omega, Hva.out.i64, Hvb.out.i64, Hvc.out.i64⟩)
          have HU := Lib.hid (U_ofInt 0 (by omega) (by omega))
          clear z5 x0 x1 x2 x3 x4 xf
          go_wp2_with fail
          go_meet
          exact ⟨⟨2, va, vb, vc, BitVec.ofInt 64 0⟩, t7, HI7.out, by dsimp only; rw [HU.out]; exact HX7.out, HSU.out, HOK.out, by omega⟩
    · as_aux_lemma =>
        go_wp2_with fail
        refine (HR'.out _ _ HI6.out (by omega)).mono ?_
        rintro e w7 ⟨vd, rfl, hvd, t7, ht7, hT7, hg7⟩
        have HI7 := Lib.hid (HI6.out.step hT7 hg7 hgw)
        have Hvd := Lib.hid hvd
        have HX7 := Lib.hid (HX6.out.onlyN hg7 (by omega))
        clear hT7 hg7 hvd z5 x0 x1 x2 x3 x4 xf
        have z5 := HI7.out.b5.cell 0 _ rfl
        have x0 := HX7.out.cell 0 _ rfl
        have x1 := HX7.out.cell 1 _ rfl
        have x2 := HX7.out.cell 2 _ rfl
        have x3 := HX7.out.cell 3 _ rfl
        have x4 := HX7.out.cell 4 _ rfl
        have xf := HX7.out.free
        go_wp2_with fail
        have HI8 := Lib.hid (HI7.out.set hgw hsw (p := ⟨xb, 1, none⟩) hxb (.int .i64 vd))
        have HX8 := Lib.hid (show Blk (w7.setCell ⟨xb, 1, none⟩ (.int .i64 vd)) xb 55 #[.int .i64 3, .int .i64 vd, .int .i64 vb, .int .i64 vc, .int .u64 0] from (HX7.out.set 1 (.int .i64 vd)))
        obtain ⟨w8, hw8⟩ : ∃ w8, (w7.setCell ⟨xb, 1, none⟩ (.int .i64 vd)) = w8 := ⟨_, rfl⟩
        rw [hw8] at HI8 HX8 ⊢
        clear hw8 z5 x0 x1 x2 x3 x4 xf
        have z5 := HI8.out.b5.cell 0 _ rfl
        have x0 := HX8.out.cell 0 _ rfl
        have x1 := HX8.out.cell 1 _ rfl
        have x2 := HX8.out.cell 2 _ rfl
        have x3 := HX8.out.cell 3 _ rfl
        have x4 := HX8.out.cell 4 _ rfl
        have xf := HX8.out.free
        have HSU := Lib.hid (show suitM ns (cnt + 1) fns nats gl r ⟨3, vd, vb, vc, BitVec.ofInt 64 0⟩ = true from suit1 (x := 2) (by rfl) Hvd.out Hvb.out.byte Hvc.out.byte)
        have HOK := Lib.hid (show NI.ok64 ⟨3, vd, vb, vc, BitVec.ofInt 64 0⟩ from ⟨by unfold I64; dsimp only; omega, Hvd.out.i64, Hvb.out.i64, Hvc.out.i64⟩)
        have HU := Lib.hid (U_ofInt 0 (by omega) (by omega))
        clear z5 x0 x1 x2 x3 x4 xf
        go_wp2_with fail
        go_meet
        exact ⟨⟨3, vd, vb, vc, BitVec.ofInt 64 0⟩, t7, HI8.out, by dsimp only; rw [HU.out]; exact HX8.out, HSU.out, HOK.out, by omega⟩
    · as_aux_lemma =>
        skip
        have HSU := Lib.hid (show suitM ns (cnt + 1) fns nats gl r ⟨4, va, vb, vc, BitVec.ofInt 64 0⟩ = true from suit3 (x := 1) (y := 1) (z := 1) (by rfl) Hva.out Hvb.out Hvc.out)
        have HOK := Lib.hid (show NI.ok64 ⟨4, va, vb, vc, BitVec.ofInt 64 0⟩ from ⟨by unfold I64; dsimp only; omega, Hva.out.i64, Hvb.out.i64, Hvc.out.i64⟩)
        have HU := Lib.hid (U_ofInt 0 (by omega) (by omega))
        clear z5 x0 x1 x2 x3 x4 xf
        go_wp2_with fail
        go_meet
        exact ⟨⟨4, va, vb, vc, BitVec.ofInt 64 0⟩, t6, HI6.out, by dsimp only; rw [HU.out]; exact HX6.out, HSU.out, HOK.out, by omega⟩
    · as_aux_lemma =>
        skip
        have HSU := Lib.hid (show suitM ns (cnt + 1) fns nats gl r ⟨5, va, vb, vc, BitVec.ofInt 64 0⟩ = true from suit3 (x := 1) (y := 1) (z := 1) (by rfl) Hva.out Hvb.out Hvc.out)
        have HOK := Lib.hid (show NI.ok64 ⟨5, va, vb, vc, BitVec.ofInt 64 0⟩ from ⟨by unfold I64; dsimp only; omega, Hva.out.i64, Hvb.out.i64, Hvc.out.i64⟩)
        have HU := Lib.hid (U_ofInt 0 (by omega) (by omega))
        clear z5 x0 x1 x2 x3 x4 xf
        go_wp2_with fail
        go_meet
        exact ⟨⟨5, va, vb, vc, BitVec.ofInt 64 0⟩, t6, HI6.out, by dsimp only; rw [HU.out]; exact HX6.out, HSU.out, HOK.out, by omega⟩
    · as_aux_lemma =>
        skip
        have HSU := Lib.hid (show suitM ns (cnt + 1) fns nats gl r ⟨6, va, vb, vc, BitVec.ofInt 64 0⟩ = true from suit3 (x := 1) (y := 1) (z := 1) (by rfl) Hva.out Hvb.out Hvc.out)
        have HOK := Lib.hid (show NI.ok64 ⟨6, va, vb, vc, BitVec.ofInt 64 0⟩ from ⟨by unfold I64; dsimp only; omega, Hva.out.i64, Hvb.out.i64, Hvc.out.i64⟩)
        have HU := Lib.hid (U_ofInt 0 (by omega) (by omega))
        clear z5 x0 x1 x2 x3 x4 xf
        go_wp2_with fail
        go_meet
        exact ⟨⟨6, va, vb, vc, BitVec.ofInt 64 0⟩, t6, HI6.out, by dsimp only; rw [HU.out]; exact HX6.out, HSU.out, HOK.out, by omega⟩
    · as_aux_lemma =>
        skip
        have HSU := Lib.hid (show suitM ns (cnt + 1) fns nats gl r ⟨7, va, vb, vc, BitVec.ofInt 64 0⟩ = true from suit3 (x := 1) (y := 1) (z := 1) (by rfl) Hva.out Hvb.out Hvc.out)
        have HOK := Lib.hid (show NI.ok64 ⟨7, va, vb, vc, BitVec.ofInt 64 0⟩ from ⟨by unfold I64; dsimp only; omega, Hva.out.i64, Hvb.out.i64, Hvc.out.i64⟩)
        have HU := Lib.hid (U_ofInt 0 (by omega) (by omega))
        clear z5 x0 x1 x2 x3 x4 xf
        go_wp2_with fail
        go_meet
        exact ⟨⟨7, va, vb, vc, BitVec.ofInt 64 0⟩, t6, HI6.out, by dsimp only; rw [HU.out]; exact HX6.out, HSU.out, HOK.out, by omega⟩
    · as_aux_lemma =>
        skip
        have HSU := Lib.hid (show suitM ns (cnt + 1) fns nats gl r ⟨8, va, vb, vc, BitVec.ofInt 64 0⟩ = true from suit3 (x := 1) (y := 1) (z := 1) (by rfl) Hva.out Hvb.out Hvc.out)
        have HOK := Lib.hid (show NI.ok64 ⟨8, va, vb, vc, BitVec.ofInt 64 0⟩ from ⟨by unfold I64; dsimp only; omega, Hva.out.i64, Hvb.out.i64, Hvc.out.i64⟩)
        have HU := Lib.hid (U_ofInt 0 (by omega) (by omega))
        clear z5 x0 x1 x2 x3 x4 xf
        go_wp2_with fail
        go_meet
        exact ⟨⟨8, va, vb, vc, BitVec.ofInt 64 0⟩, t6, HI6.out, by dsimp only; rw [HU.out]; exact HX6.out, HSU.out, HOK.out, by omega⟩
    · as_aux_lemma =>
        go_wp2_with fail
        refine (HR'.out _ _ HI6.out (by omega)).mono ?_
        rintro e w7 ⟨vd, rfl, hvd, t7, ht7, hT7, hg7⟩
        have HI7 := Lib.hid (HI6.out.step hT7 hg7 hgw)
        have Hvd := Lib.hid hvd
        have HX7 := Lib.hid (HX6.out.onlyN hg7 (by omega))
        clear hT7 hg7 hvd z5 x0 x1 x2 x3 x4 xf
        have z5 := HI7.out.b5.cell 0 _ rfl
        have x0 := HX7.out.cell 0 _ rfl
        have x1 := HX7.out.cell 1 _ rfl
        have x2 := HX7.out.cell 2 _ rfl
        have x3 := HX7.out.cell 3 _ rfl
        have x4 := HX7.out.cell 4 _ rfl
        have xf := HX7.out.free
        go_wp2_with fail
        have HI8 := Lib.hid (HI7.out.set hgw hsw (p := ⟨xb, 2, none⟩) hxb (.int .i64 vd))
        have HX8 := Lib.hid (show Blk (w7.setCell ⟨xb, 2, none⟩ (.int .i64 vd)) xb 55 #[.int .i64 9, .int .i64 va, .int .i64 vd, .int .i64 vc, .int .u64 0] from (HX7.out.set 2 (.int .i64 vd)))
        obtain ⟨w8, hw8⟩ : ∃ w8, (w7.setCell ⟨xb, 2, none⟩ (.int .i64 vd)) = w8 := ⟨_, rfl⟩
        rw [hw8] at HI8 HX8 ⊢
        clear hw8 z5 x0 x1 x2 x3 x4 xf
        have z5 := HI8.out.b5.cell 0 _ rfl
        have x0 := HX8.out.cell 0 _ rfl
        have x1 := HX8.out.cell 1 _ rfl
        have x2 := HX8.out.cell 2 _ rfl
        have x3 := HX8.out.cell 3 _ rfl
        have x4 := HX8.out.cell 4 _ rfl
        have xf := HX8.out.free
        have HSU := Lib.hid (show suitM ns (cnt + 1) fns nats gl r ⟨9, va, vd, vc, BitVec.ofInt 64 0⟩ = true from suit2 (x := 1) (y := 2) (by rfl) Hva.out Hvd.out Hvc.out.byte)
        have HOK := Lib.hid (show NI.ok64 ⟨9, va, vd, vc, BitVec.ofInt 64 0⟩ from ⟨by unfold I64; dsimp only; omega, Hva.out.i64, Hvd.out.i64, Hvc.out.i64⟩)
        have HU := Lib.hid (U_ofInt 0 (by omega) (by omega))
        clear z5 x0 x1 x2 x3 x4 xf
        go_wp2_with fail
        go_meet
        exact ⟨⟨9, va, vd, vc, BitVec.ofInt 64 0⟩, t7, HI8.out, by dsimp only; rw [HU.out]; exact HX8.out, HSU.out, HOK.out, by omega⟩
    · as_aux_lemma =>
        go_wp2_with fail
        refine (HR'.out _ _ HI6.out (by omega)).mono ?_
        rintro e w7 ⟨vd, rfl, hvd, t7, ht7, hT7, hg7⟩
        have HI7 := Lib.hid (HI6.out.step hT7 hg7 hgw)
        have Hvd := Lib.hid hvd
        have HX7 := Lib.hid (HX6.out.onlyN hg7 (by omega))
        clear hT7 hg7 hvd z5 x0 x1 x2 x3 x4 xf
        have z5 := HI7.out.b5.cell 0 _ rfl
        have x0 := HX7.out.cell 0 _ rfl
        have x1 := HX7.out.cell 1 _ rfl
        have x2 := HX7.out.cell 2 _ rfl
        have x3 := HX7.out.cell 3 _ rfl
        have x4 := HX7.out.cell 4 _ rfl
        have xf := HX7.out.free
        go_wp2_with fail
        refine (HR'.out _ _ HI7.out (by omega)).mono ?_
        rintro e w8 ⟨ve, rfl, hve, t8, ht8, hT8, hg8⟩
        have HI8 := Lib.hid (HI7.out.step hT8 hg8 hgw)
        have Hve := Lib.hid hve
        have HX8 := Lib.hid (HX7.out.onlyN hg8 (by omega))
        clear hT8 hg8 hve z5 x0 x1 x2 x3 x4 xf
        have z5 := HI8.out.b5.cell 0 _ rfl
        have x0 := HX8.out.cell 0 _ rfl
        have x1 := HX8.out.cell 1 _ rfl
        have x2 := HX8.out.cell 2 _ rfl
        have x3 := HX8.out.cell 3 _ rfl
        have x4 := HX8.out.cell 4 _ rfl
        have xf := HX8.out.free
        go_wp2_with fail
        have HI9 := Lib.hid ((HI8.out.set hgw hsw (p := ⟨xb, 2, none⟩) hxb (.int .i64 vd)).set hgw hsw (p := ⟨xb, 3, none⟩) hxb (.int .i64 ve))
        have HX9 := Lib.hid (show Blk ((w8.setCell ⟨xb, 2, none⟩ (.int .i64 vd)).setCell ⟨xb, 3, none⟩ (.int .i64 ve)) xb 55 #[.int .i64 10, .int .i64 va, .int .i64 vd, .int .i64 ve, .int .u64 0] from ((HX8.out.set 2 (.int .i64 vd)).set 3 (.int .i64 ve)))
        obtain ⟨w9, hw9⟩ : ∃ w9, ((w8.setCell ⟨xb, 2, none⟩ (.int .i64 vd)).setCell ⟨xb, 3, none⟩ (.int .i64 ve)) = w9 := ⟨_, rfl⟩
        rw [hw9] at HI9 HX9 ⊢
        clear hw9 z5 x0 x1 x2 x3 x4 xf
        have z5 := HI9.out.b5.cell 0 _ rfl
        have x0 := HX9.out.cell 0 _ rfl
        have x1 := HX9.out.cell 1 _ rfl
        have x2 := HX9.out.cell 2 _ rfl
        have x3 := HX9.out.cell 3 _ rfl
        have x4 := HX9.out.cell 4 _ rfl
        have xf := HX9.out.free
        have HSU := Lib.hid (show suitM ns (cnt + 1) fns nats gl r ⟨10, va, vd, ve, BitVec.ofInt 64 0⟩ = true from suit3 (x := 1) (y := 2) (z := 2) (by rfl) Hva.out Hvd.out Hve.out)
        have HOK := Lib.hid (show NI.ok64 ⟨10, va, vd, ve, BitVec.ofInt 64 0⟩ from ⟨by unfold I64; dsimp only; omega, Hva.out.i64, Hvd.out.i64, Hve.out.i64⟩)
        have HU := Lib.hid (U_ofInt 0 (by omega) (by omega))
        clear z5 x0 x1 x2 x3 x4 xf
        go_wp2_with fail
        go_meet
        exact ⟨⟨10, va, vd, ve, BitVec.ofInt 64 0⟩, t8, HI9.out, by dsimp only; rw [HU.out]; exact HX9.out, HSU.out, HOK.out, by omega⟩
    · as_aux_lemma =>
        skip
        have wp1 : IntKind.i64.wrap ((pc : Int) + 1) = (pc : Int) + 1 := IntWalk.i64_in _ (by omega)
        have wcn : IntKind.u64.wrap (cnt : Int) = (cnt : Int) := IntWalk.u64_in _ ⟨by omega, by omega⟩
        go_wp2_with fail
        refine (HNX.out _ _ 3 HI6.out.tape (by omega) (by omega)).mono ?_
        rintro e w7 ⟨vk, rfl, hvk0, hvk1, t7, ht7, hT7, hg7⟩
        have HI7 := Lib.hid (HI6.out.step hT7 hg7 hgw)
        have HX7 := Lib.hid (HX6.out.onlyN hg7 (by omega))
        clear hT7 hg7 z5 x0 x1 x2 x3 x4 xf
        have z5 := HI7.out.b5.cell 0 _ rfl
        have x0 := HX7.out.cell 0 _ rfl
        have x1 := HX7.out.cell 1 _ rfl
        have x2 := HX7.out.cell 2 _ rfl
        have x3 := HX7.out.cell 3 _ rfl
        have x4 := HX7.out.cell 4 _ rfl
        have xf := HX7.out.free
        obtain ⟨vj, hvj⟩ : ∃ vj, (pc : Int) + 1 + vk = vj := ⟨_, rfl⟩
        have wj : IntKind.i64.wrap vj = vj := IntWalk.i64_in _ (by omega)
        have wju : IntKind.u64.wrap vj = vj := IntWalk.u64_in _ ⟨by omega, by omega⟩
        go_upto_region 21 with fail
        have hvj0 : 0 ≤ vj ∧ vj ≤ 40 := by omega
        clear hvj
        have HI8 := Lib.hid (HI7.out.set hgw hsw (p := ⟨xb, 4, none⟩) hxb (.int .u64 vj))
        have HX8 := Lib.hid (show Blk (w7.setCell ⟨xb, 4, none⟩ (.int .u64 vj)) xb 55 #[.int .i64 12, .int .i64 va, .int .i64 vb, .int .i64 vc, .int .u64 vj] from (HX7.out.set 4 (.int .u64 vj)))
        obtain ⟨w8, hw8⟩ : ∃ w8, (w7.setCell ⟨xb, 4, none⟩ (.int .u64 vj)) = w8 := ⟨_, rfl⟩
        rw [hw8] at HI8 HX8 ⊢
        clear hw8 z5 x0 x1 x2 x3 x4 xf
        have z5 := HI8.out.b5.cell 0 _ rfl
        have x0 := HX8.out.cell 0 _ rfl
        have x1 := HX8.out.cell 1 _ rfl
        have x2 := HX8.out.cell 2 _ rfl
        have x3 := HX8.out.cell 3 _ rfl
        have x4 := HX8.out.cell 4 _ rfl
        have xf := HX8.out.free
        obtain ⟨t8, ht8⟩ : ∃ t8, t7 = t8 := ⟨_, rfl⟩
        rw [ht8] at HI8
        go_wp2_with fail
        refine (HNX.out _ _ 8 HI8.out.tape (by omega) (by omega)).mono ?_
        rintro e w9 ⟨v8, rfl, hv80, hv81, t9, ht9, hT9, hg9⟩
        have HI9 := Lib.hid (HI8.out.step hT9 hg9 hgw)
        have HX9 := Lib.hid (HX8.out.onlyN hg9 (by omega))
        clear hT9 hg9 z5 x0 x1 x2 x3 x4 xf
        have z5 := HI9.out.b5.cell 0 _ rfl
        have x0 := HX9.out.cell 0 _ rfl
        have x1 := HX9.out.cell 1 _ rfl
        have x2 := HX9.out.cell 2 _ rfl
        have x3 := HX9.out.cell 3 _ rfl
        have x4 := HX9.out.cell 4 _ rfl
        have xf := HX9.out.free
        by_cases hv8 : v8 = 0
        · have s0 : (v8 == 0) = true := by simp [hv8]
          clear hv8
          go_wp2_with fail
          refine (HNX.out _ _ ((pc : Int) + 1) HI9.out.tape (by omega) (by omega)).mono ?_
          rintro e w10 ⟨vu, rfl, hvu0, hvu1, t10, ht10, hT10, hg10⟩
          have HI10 := Lib.hid (HI9.out.step hT10 hg10 hgw)
          have HX10 := Lib.hid (HX9.out.onlyN hg10 (by omega))
          clear hT10 hg10 z5 x0 x1 x2 x3 x4 xf
          have z5 := HI10.out.b5.cell 0 _ rfl
          have x0 := HX10.out.cell 0 _ rfl
          have x1 := HX10.out.cell 1 _ rfl
          have x2 := HX10.out.cell 2 _ rfl
          have x3 := HX10.out.cell 3 _ rfl
          have x4 := HX10.out.cell 4 _ rfl
          have xf := HX10.out.free
          have wu : IntKind.u64.wrap vu = vu := IntWalk.u64_in _ ⟨by omega, by omega⟩
          go_upto_region 23 with fail
          have HI11 := Lib.hid (HI10.out.set hgw hsw (p := ⟨xb, 4, none⟩) hxb (.int .u64 vu))
          have HX11 := Lib.hid (show Blk (w10.setCell ⟨xb, 4, none⟩ (.int .u64 vu)) xb 55 #[.int .i64 12, .int .i64 va, .int .i64 vb, .int .i64 vc, .int .u64 vu] from (HX10.out.set 4 (.int .u64 vu)))
          obtain ⟨w11, hw11⟩ : ∃ w11, (w10.setCell ⟨xb, 4, none⟩ (.int .u64 vu)) = w11 := ⟨_, rfl⟩
          rw [hw11] at HI11 HX11 ⊢
          clear hw11 z5 x0 x1 x2 x3 x4 xf
          have z5 := HI11.out.b5.cell 0 _ rfl
          have x0 := HX11.out.cell 0 _ rfl
          have x1 := HX11.out.cell 1 _ rfl
          have x2 := HX11.out.cell 2 _ rfl
          have x3 := HX11.out.cell 3 _ rfl
          have x4 := HX11.out.cell 4 _ rfl
          have xf := HX11.out.free
          by_cases hle : vu ≤ (cnt : Int)
          · have hle2 : decide (vu ≤ (cnt : Int)) = true := decide_eq_true hle
            go_wp2_with fail
            clear z5 x0 x1 x2 x3 x4 xf
            go_meet
            exact ⟨⟨12, va, vb, vc, BitVec.ofInt 64 vu⟩, t10, HI11.out.set hgw hsw (p := ⟨xb, 4, none⟩) hxb (.int .u64 vu), by dsimp only; rw [U_ofInt vu (by omega) (by omega)]; exact HX11.out.set 4 (.int .u64 vu), suit_jumpif (by rw [U_ofInt vu (by omega) (by omega)]; omega) Hva.out Hvb.out.byte Hvc.out.byte, ⟨by unfold I64; dsimp only; omega, Hva.out.i64, Hvb.out.i64, Hvc.out.i64⟩, by omega⟩
          · exfalso; omega
        · have s0 : (v8 == 0) = false := by simp [hv8]
          clear hv8
          go_upto_region 23 with fail
          by_cases hle : vj ≤ (cnt : Int)
          · have hle2 : decide (vj ≤ (cnt : Int)) = true := decide_eq_true hle
            go_wp2_with fail
            clear z5 x0 x1 x2 x3 x4 xf
            go_meet
            exact ⟨⟨12, va, vb, vc, BitVec.ofInt 64 vj⟩, t9, HI9.out.set hgw hsw (p := ⟨xb, 4, none⟩) hxb (.int .u64 vj), by dsimp only; rw [U_ofInt vj (by omega) (by omega)]; exact HX9.out.set 4 (.int .u64 vj), suit_jumpif (by rw [U_ofInt vj (by omega) (by omega)]; omega) Hva.out Hvb.out.byte Hvc.out.byte, ⟨by unfold I64; dsimp only; omega, Hva.out.i64, Hvb.out.i64, Hvc.out.i64⟩, by omega⟩
          · have hle2 : decide (vj ≤ (cnt : Int)) = false := decide_eq_false hle
            go_wp2_with fail
            clear z5 x0 x1 x2 x3 x4 xf
            go_meet
            exact ⟨⟨12, va, vb, vc, BitVec.ofInt 64 (cnt : Int)⟩, t9, HI9.out.set hgw hsw (p := ⟨xb, 4, none⟩) hxb (.int .u64 (cnt : Int)), by dsimp only; rw [U_ofInt (cnt : Int) (by omega) (by omega)]; exact HX9.out.set 4 (.int .u64 (cnt : Int)), suit_jumpif (by rw [U_ofInt (cnt : Int) (by omega) (by omega)]; omega) Hva.out Hvb.out.byte Hvc.out.byte, ⟨by unfold I64; dsimp only; omega, Hva.out.i64, Hvb.out.i64, Hvc.out.i64⟩, by omega⟩
    · as_aux_lemma =>
        skip
        go_upto_region 25 with fail
        have L5 : ∀ u, (∃ tq, ISt w u g tq s #[.slice S ns cs, .slice F nf cf, .slice N nn cn] #[.int .i64 p, .slice A n c, .int .i64 r, .slice B m d]) → u.cell? ⟨s, 0, none⟩ = some (.pointer (some ⟨g, 0, none⟩)) := fun u ⟨_, h⟩ => h.b5.cell 0 _ rfl
        have L6 : ∀ u, (∃ tq, ISt w u g tq s #[.slice S ns cs, .slice F nf cf, .slice N nn cn] #[.int .i64 p, .slice A n c, .int .i64 r, .slice B m d]) → u.cell? ⟨s + 1, 0, none⟩ = some (.slice S ns cs) := fun u ⟨_, h⟩ => h.b6.cell 0 _ rfl
        clear z5 x0 x1 x2 x3 x4 xf
        go_region_held3 (fun u => ∃ tq, ISt w u g tq s #[.slice S ns cs, .slice F nf cf, .slice N nn cn] #[.int .i64 p, .slice A n c, .int .i64 r, .slice B m d]) (first | exact ⟨_, HI6.out.drew⟩ | exact ⟨_, HI7.out⟩ | exact ⟨_, HI8.out⟩ | exact ⟨_, HI8.out.set hgw hsw (p := ⟨xb, 1, none⟩) hxb _⟩ | exact ⟨_, HI8.out.set hgw hsw (p := ⟨xb, 4, none⟩) hxb _⟩ | exact ⟨_, (HI8.out.set hgw hsw (p := ⟨xb, 1, none⟩) hxb _).set hgw hsw (p := ⟨xb, 4, none⟩) hxb _⟩ | exact ⟨_, (HI8.out.set hgw hsw (p := ⟨xb, 4, none⟩) hxb _).set hgw hsw (p := ⟨xb, 1, none⟩) hxb _⟩) (first | (go_at_call 70; refine (HR'.out _ _ HI6.out.drew (by omega)).mono ?_; rintro e w7 ⟨vd, rfl, hvd, t7, ht7, hT7, hg7⟩; have HI7 := Lib.hid (HI6.out.drew.step hT7 hg7 hgw); have HX7 := Lib.hid (Blk.onlyN (show Blk w6.drew xb 55 #[.int .i64 13, .int .i64 va, .int .i64 vb, .int .i64 vc, .int .u64 0] from HX6.out) hg7 (by omega)); have Hvd := Lib.hid hvd; clear hT7 hg7 hvd) | (go_at_call 39; refine (HNX.out _ _ (ns : Int) HI7.out.tape (by omega) (by omega)).mono ?_; rintro e w8 ⟨vk, rfl, hvk0, hvk1, t8, ht8, hT8, hg8⟩; have HI8 := Lib.hid (HI7.out.step hT8 hg8 hgw); have HX8 := Lib.hid (HX7.out.onlyN hg8 (by omega)); have wv : IntKind.u64.wrap vk = vk := IntWalk.u64_in _ ⟨by omega, by omega⟩; have x1 := HX8.out.cell 1 _ rfl; have x4 := HX8.out.cell 4 _ rfl; have xf := HX8.out.free; clear hT8 hg8))
        all_goals
          clear x1 x4 xf L5 L6
          go_wp2_with fail
          go_meet
          have HSU := suit_new (ns := ns) (m := cnt + 1) (fns := fns) (nats := nats) (locs := gl) (r := r) (a := vd) (b := vb) (c := vc) (k := BitVec.ofInt 64 vk) (by rw [U_ofInt vk (by omega) (by omega)]; omega) Hvd.out Hvb.out.byte Hvc.out.byte
          first
            | exact ⟨⟨13, vd, vb, vc, BitVec.ofInt 64 vk⟩, t8, (HI8.out.set hgw hsw (p := ⟨xb, 1, none⟩) hxb (.int .i64 vd)).set hgw hsw (p := ⟨xb, 4, none⟩) hxb (.int .u64 vk), by dsimp only; rw [U_ofInt vk (by omega) (by omega)]; exact (HX8.out.set 1 (.int .i64 vd)).set 4 (.int .u64 vk), HSU, ⟨by unfold I64; dsimp only; omega, Hvd.out.i64, Hvb.out.i64, Hvc.out.i64⟩, by omega⟩
            | exact ⟨⟨13, vd, vb, vc, BitVec.ofInt 64 vk⟩, t8, (HI8.out.set hgw hsw (p := ⟨xb, 4, none⟩) hxb (.int .u64 vk)).set hgw hsw (p := ⟨xb, 1, none⟩) hxb (.int .i64 vd), by dsimp only; rw [U_ofInt vk (by omega) (by omega)]; exact (HX8.out.set 4 (.int .u64 vk)).set 1 (.int .i64 vd), HSU, ⟨by unfold I64; dsimp only; omega, Hvd.out.i64, Hvb.out.i64, Hvc.out.i64⟩, by omega⟩
    · as_aux_lemma =>
        go_wp2_with fail
        refine (HR'.out _ _ HI6.out (by omega)).mono ?_
        rintro e w7 ⟨vd, rfl, hvd, t7, ht7, hT7, hg7⟩
        have HI7 := Lib.hid (HI6.out.step hT7 hg7 hgw)
        have Hvd := Lib.hid hvd
        have HX7 := Lib.hid (HX6.out.onlyN hg7 (by omega))
        clear hT7 hg7 hvd z5 x0 x1 x2 x3 x4 xf
        have z5 := HI7.out.b5.cell 0 _ rfl
        have x0 := HX7.out.cell 0 _ rfl
        have x1 := HX7.out.cell 1 _ rfl
        have x2 := HX7.out.cell 2 _ rfl
        have x3 := HX7.out.cell 3 _ rfl
        have x4 := HX7.out.cell 4 _ rfl
        have xf := HX7.out.free
        go_wp2_with fail
        have HI8 := Lib.hid (HI7.out.set hgw hsw (p := ⟨xb, 1, none⟩) hxb (.int .i64 vd))
        have HX8 := Lib.hid (show Blk (w7.setCell ⟨xb, 1, none⟩ (.int .i64 vd)) xb 55 #[.int .i64 14, .int .i64 vd, .int .i64 vb, .int .i64 vc, .int .u64 0] from (HX7.out.set 1 (.int .i64 vd)))
        obtain ⟨w8, hw8⟩ : ∃ w8, (w7.setCell ⟨xb, 1, none⟩ (.int .i64 vd)) = w8 := ⟨_, rfl⟩
        rw [hw8] at HI8 HX8 ⊢
        clear hw8 z5 x0 x1 x2 x3 x4 xf
        have z5 := HI8.out.b5.cell 0 _ rfl
        have x0 := HX8.out.cell 0 _ rfl
        have x1 := HX8.out.cell 1 _ rfl
        have x2 := HX8.out.cell 2 _ rfl
        have x3 := HX8.out.cell 3 _ rfl
        have x4 := HX8.out.cell 4 _ rfl
        have xf := HX8.out.free
        have HSU := Lib.hid (show suitM ns (cnt + 1) fns nats gl r ⟨14, vd, vb, vc, BitVec.ofInt 64 0⟩ = true from suit2 (x := 2) (y := 1) (by rfl) Hvd.out Hvb.out Hvc.out.byte)
        have HOK := Lib.hid (show NI.ok64 ⟨14, vd, vb, vc, BitVec.ofInt 64 0⟩ from ⟨by unfold I64; dsimp only; omega, Hvd.out.i64, Hvb.out.i64, Hvc.out.i64⟩)
        have HU := Lib.hid (U_ofInt 0 (by omega) (by omega))
        clear z5 x0 x1 x2 x3 x4 xf
        go_wp2_with fail
        go_meet
        exact ⟨⟨14, vd, vb, vc, BitVec.ofInt 64 0⟩, t7, HI8.out, by dsimp only; rw [HU.out]; exact HX8.out, HSU.out, HOK.out, by omega⟩
    · as_aux_lemma =>
        go_wp2_with fail
        refine (HR'.out _ _ HI6.out (by omega)).mono ?_
        rintro e w7 ⟨vd, rfl, hvd, t7, ht7, hT7, hg7⟩
        have HI7 := Lib.hid (HI6.out.step hT7 hg7 hgw)
        have Hvd := Lib.hid hvd
        have HX7 := Lib.hid (HX6.out.onlyN hg7 (by omega))
        clear hT7 hg7 hvd z5 x0 x1 x2 x3 x4 xf
        have z5 := HI7.out.b5.cell 0 _ rfl
        have x0 := HX7.out.cell 0 _ rfl
        have x1 := HX7.out.cell 1 _ rfl
        have x2 := HX7.out.cell 2 _ rfl
        have x3 := HX7.out.cell 3 _ rfl
        have x4 := HX7.out.cell 4 _ rfl
        have xf := HX7.out.free
        go_wp2_with fail
        have HI8 := Lib.hid (HI7.out.set hgw hsw (p := ⟨xb, 1, none⟩) hxb (.int .i64 vd))
        have HX8 := Lib.hid (show Blk (w7.setCell ⟨xb, 1, none⟩ (.int .i64 vd)) xb 55 #[.int .i64 15, .int .i64 vd, .int .i64 vb, .int .i64 vc, .int .u64 0] from (HX7.out.set 1 (.int .i64 vd)))
        obtain ⟨w8, hw8⟩ : ∃ w8, (w7.setCell ⟨xb, 1, none⟩ (.int .i64 vd)) = w8 := ⟨_, rfl⟩
        rw [hw8] at HI8 HX8 ⊢
        clear hw8 z5 x0 x1 x2 x3 x4 xf
        have z5 := HI8.out.b5.cell 0 _ rfl
        have x0 := HX8.out.cell 0 _ rfl
        have x1 := HX8.out.cell 1 _ rfl
        have x2 := HX8.out.cell 2 _ rfl
        have x3 := HX8.out.cell 3 _ rfl
        have x4 := HX8.out.cell 4 _ rfl
        have xf := HX8.out.free
        have HSU := Lib.hid (show suitM ns (cnt + 1) fns nats gl r ⟨15, vd, vb, vc, BitVec.ofInt 64 0⟩ = true from suit2 (x := 2) (y := 1) (by rfl) Hvd.out Hvb.out Hvc.out.byte)
        have HOK := Lib.hid (show NI.ok64 ⟨15, vd, vb, vc, BitVec.ofInt 64 0⟩ from ⟨by unfold I64; dsimp only; omega, Hvd.out.i64, Hvb.out.i64, Hvc.out.i64⟩)
        have HU := Lib.hid (U_ofInt 0 (by omega) (by omega))
        clear z5 x0 x1 x2 x3 x4 xf
        go_wp2_with fail
        go_meet
        exact ⟨⟨15, vd, vb, vc, BitVec.ofInt 64 0⟩, t7, HI8.out, by dsimp only; rw [HU.out]; exact HX8.out, HSU.out, HOK.out, by omega⟩
    · as_aux_lemma =>
        go_wp2_with fail
        refine (HR'.out _ _ HI6.out (by omega)).mono ?_
        rintro e w7 ⟨vd, rfl, hvd, t7, ht7, hT7, hg7⟩
        have HI7 := Lib.hid (HI6.out.step hT7 hg7 hgw)
        have Hvd := Lib.hid hvd
        have HX7 := Lib.hid (HX6.out.onlyN hg7 (by omega))
        clear hT7 hg7 hvd z5 x0 x1 x2 x3 x4 xf
        have z5 := HI7.out.b5.cell 0 _ rfl
        have x0 := HX7.out.cell 0 _ rfl
        have x1 := HX7.out.cell 1 _ rfl
        have x2 := HX7.out.cell 2 _ rfl
        have x3 := HX7.out.cell 3 _ rfl
        have x4 := HX7.out.cell 4 _ rfl
        have xf := HX7.out.free
        go_wp2_with fail
        have HI8 := Lib.hid (HI7.out.set hgw hsw (p := ⟨xb, 2, none⟩) hxb (.int .i64 vd))
        have HX8 := Lib.hid (show Blk (w7.setCell ⟨xb, 2, none⟩ (.int .i64 vd)) xb 55 #[.int .i64 16, .int .i64 va, .int .i64 vd, .int .i64 vc, .int .u64 0] from (HX7.out.set 2 (.int .i64 vd)))
        obtain ⟨w8, hw8⟩ : ∃ w8, (w7.setCell ⟨xb, 2, none⟩ (.int .i64 vd)) = w8 := ⟨_, rfl⟩
        rw [hw8] at HI8 HX8 ⊢
        clear hw8 z5 x0 x1 x2 x3 x4 xf
        have z5 := HI8.out.b5.cell 0 _ rfl
        have x0 := HX8.out.cell 0 _ rfl
        have x1 := HX8.out.cell 1 _ rfl
        have x2 := HX8.out.cell 2 _ rfl
        have x3 := HX8.out.cell 3 _ rfl
        have x4 := HX8.out.cell 4 _ rfl
        have xf := HX8.out.free
        have HSU := Lib.hid (show suitM ns (cnt + 1) fns nats gl r ⟨16, va, vd, vc, BitVec.ofInt 64 0⟩ = true from suit2 (x := 1) (y := 2) (by rfl) Hva.out Hvd.out Hvc.out.byte)
        have HOK := Lib.hid (show NI.ok64 ⟨16, va, vd, vc, BitVec.ofInt 64 0⟩ from ⟨by unfold I64; dsimp only; omega, Hva.out.i64, Hvd.out.i64, Hvc.out.i64⟩)
        have HU := Lib.hid (U_ofInt 0 (by omega) (by omega))
        clear z5 x0 x1 x2 x3 x4 xf
        go_wp2_with fail
        go_meet
        exact ⟨⟨16, va, vd, vc, BitVec.ofInt 64 0⟩, t7, HI8.out, by dsimp only; rw [HU.out]; exact HX8.out, HSU.out, HOK.out, by omega⟩
    · as_aux_lemma =>
        go_wp2_with fail
        refine (HR'.out _ _ HI6.out (by omega)).mono ?_
        rintro e w7 ⟨vd, rfl, hvd, t7, ht7, hT7, hg7⟩
        have HI7 := Lib.hid (HI6.out.step hT7 hg7 hgw)
        have Hvd := Lib.hid hvd
        have HX7 := Lib.hid (HX6.out.onlyN hg7 (by omega))
        clear hT7 hg7 hvd z5 x0 x1 x2 x3 x4 xf
        have z5 := HI7.out.b5.cell 0 _ rfl
        have x0 := HX7.out.cell 0 _ rfl
        have x1 := HX7.out.cell 1 _ rfl
        have x2 := HX7.out.cell 2 _ rfl
        have x3 := HX7.out.cell 3 _ rfl
        have x4 := HX7.out.cell 4 _ rfl
        have xf := HX7.out.free
        go_wp2_with fail
        have HI8 := Lib.hid (HI7.out.set hgw hsw (p := ⟨xb, 2, none⟩) hxb (.int .i64 vd))
        have HX8 := Lib.hid (show Blk (w7.setCell ⟨xb, 2, none⟩ (.int .i64 vd)) xb 55 #[.int .i64 17, .int .i64 va, .int .i64 vd, .int .i64 vc, .int .u64 0] from (HX7.out.set 2 (.int .i64 vd)))
        obtain ⟨w8, hw8⟩ : ∃ w8, (w7.setCell ⟨xb, 2, none⟩ (.int .i64 vd)) = w8 := ⟨_, rfl⟩
        rw [hw8] at HI8 HX8 ⊢
        clear hw8 z5 x0 x1 x2 x3 x4 xf
        have z5 := HI8.out.b5.cell 0 _ rfl
        have x0 := HX8.out.cell 0 _ rfl
        have x1 := HX8.out.cell 1 _ rfl
        have x2 := HX8.out.cell 2 _ rfl
        have x3 := HX8.out.cell 3 _ rfl
        have x4 := HX8.out.cell 4 _ rfl
        have xf := HX8.out.free
        have HSU := Lib.hid (show suitM ns (cnt + 1) fns nats gl r ⟨17, va, vd, vc, BitVec.ofInt 64 0⟩ = true from suit3 (x := 1) (y := 2) (z := 1) (by rfl) Hva.out Hvd.out Hvc.out)
        have HOK := Lib.hid (show NI.ok64 ⟨17, va, vd, vc, BitVec.ofInt 64 0⟩ from ⟨by unfold I64; dsimp only; omega, Hva.out.i64, Hvd.out.i64, Hvc.out.i64⟩)
        have HU := Lib.hid (U_ofInt 0 (by omega) (by omega))
        clear z5 x0 x1 x2 x3 x4 xf
        go_wp2_with fail
        go_meet
        exact ⟨⟨17, va, vd, vc, BitVec.ofInt 64 0⟩, t7, HI8.out, by dsimp only; rw [HU.out]; exact HX8.out, HSU.out, HOK.out, by omega⟩
    · as_aux_lemma =>
        go_wp2_with fail
        refine (HR'.out _ _ HI6.out (by omega)).mono ?_
        rintro e w7 ⟨vd, rfl, hvd, t7, ht7, hT7, hg7⟩
        have HI7 := Lib.hid (HI6.out.step hT7 hg7 hgw)
        have Hvd := Lib.hid hvd
        have HX7 := Lib.hid (HX6.out.onlyN hg7 (by omega))
        clear hT7 hg7 hvd z5 x0 x1 x2 x3 x4 xf
        have z5 := HI7.out.b5.cell 0 _ rfl
        have x0 := HX7.out.cell 0 _ rfl
        have x1 := HX7.out.cell 1 _ rfl
        have x2 := HX7.out.cell 2 _ rfl
        have x3 := HX7.out.cell 3 _ rfl
        have x4 := HX7.out.cell 4 _ rfl
        have xf := HX7.out.free
        go_wp2_with fail
        have HI8 := Lib.hid (HI7.out.set hgw hsw (p := ⟨xb, 1, none⟩) hxb (.int .i64 vd))
        have HX8 := Lib.hid (show Blk (w7.setCell ⟨xb, 1, none⟩ (.int .i64 vd)) xb 55 #[.int .i64 18, .int .i64 vd, .int .i64 vb, .int .i64 vc, .int .u64 0] from (HX7.out.set 1 (.int .i64 vd)))
        obtain ⟨w8, hw8⟩ : ∃ w8, (w7.setCell ⟨xb, 1, none⟩ (.int .i64 vd)) = w8 := ⟨_, rfl⟩
        rw [hw8] at HI8 HX8 ⊢
        clear hw8 z5 x0 x1 x2 x3 x4 xf
        have z5 := HI8.out.b5.cell 0 _ rfl
        have x0 := HX8.out.cell 0 _ rfl
        have x1 := HX8.out.cell 1 _ rfl
        have x2 := HX8.out.cell 2 _ rfl
        have x3 := HX8.out.cell 3 _ rfl
        have x4 := HX8.out.cell 4 _ rfl
        have xf := HX8.out.free
        have HSU := Lib.hid (show suitM ns (cnt + 1) fns nats gl r ⟨18, vd, vb, vc, BitVec.ofInt 64 0⟩ = true from suit3 (x := 2) (y := 1) (z := 1) (by rfl) Hvd.out Hvb.out Hvc.out)
        have HOK := Lib.hid (show NI.ok64 ⟨18, vd, vb, vc, BitVec.ofInt 64 0⟩ from ⟨by unfold I64; dsimp only; omega, Hvd.out.i64, Hvb.out.i64, Hvc.out.i64⟩)
        have HU := Lib.hid (U_ofInt 0 (by omega) (by omega))
        clear z5 x0 x1 x2 x3 x4 xf
        go_wp2_with fail
        go_meet
        exact ⟨⟨18, vd, vb, vc, BitVec.ofInt 64 0⟩, t7, HI8.out, by dsimp only; rw [HU.out]; exact HX8.out, HSU.out, HOK.out, by omega⟩
    · as_aux_lemma =>
        go_wp2_with fail
        refine (HR'.out _ _ HI6.out (by omega)).mono ?_
        rintro e w7 ⟨vd, rfl, hvd, t7, ht7, hT7, hg7⟩
        have HI7 := Lib.hid (HI6.out.step hT7 hg7 hgw)
        have Hvd := Lib.hid hvd
        have HX7 := Lib.hid (HX6.out.onlyN hg7 (by omega))
        clear hT7 hg7 hvd z5 x0 x1 x2 x3 x4 xf
        have z5 := HI7.out.b5.cell 0 _ rfl
        have x0 := HX7.out.cell 0 _ rfl
        have x1 := HX7.out.cell 1 _ rfl
        have x2 := HX7.out.cell 2 _ rfl
        have x3 := HX7.out.cell 3 _ rfl
        have x4 := HX7.out.cell 4 _ rfl
        have xf := HX7.out.free
        go_wp2_with fail
        refine (HR'.out _ _ HI7.out (by omega)).mono ?_
        rintro e w8 ⟨ve, rfl, hve, t8, ht8, hT8, hg8⟩
        have HI8 := Lib.hid (HI7.out.step hT8 hg8 hgw)
        have Hve := Lib.hid hve
        have HX8 := Lib.hid (HX7.out.onlyN hg8 (by omega))
        clear hT8 hg8 hve z5 x0 x1 x2 x3 x4 xf
        have z5 := HI8.out.b5.cell 0 _ rfl
        have x0 := HX8.out.cell 0 _ rfl
        have x1 := HX8.out.cell 1 _ rfl
        have x2 := HX8.out.cell 2 _ rfl
        have x3 := HX8.out.cell 3 _ rfl
        have x4 := HX8.out.cell 4 _ rfl
        have xf := HX8.out.free
        go_wp2_with fail
        have HI9 := Lib.hid ((HI8.out.set hgw hsw (p := ⟨xb, 1, none⟩) hxb (.int .i64 vd)).set hgw hsw (p := ⟨xb, 2, none⟩) hxb (.int .i64 ve))
        have HX9 := Lib.hid (show Blk ((w8.setCell ⟨xb, 1, none⟩ (.int .i64 vd)).setCell ⟨xb, 2, none⟩ (.int .i64 ve)) xb 55 #[.int .i64 19, .int .i64 vd, .int .i64 ve, .int .i64 vc, .int .u64 0] from ((HX8.out.set 1 (.int .i64 vd)).set 2 (.int .i64 ve)))
        obtain ⟨w9, hw9⟩ : ∃ w9, ((w8.setCell ⟨xb, 1, none⟩ (.int .i64 vd)).setCell ⟨xb, 2, none⟩ (.int .i64 ve)) = w9 := ⟨_, rfl⟩
        rw [hw9] at HI9 HX9 ⊢
        clear hw9 z5 x0 x1 x2 x3 x4 xf
        have z5 := HI9.out.b5.cell 0 _ rfl
        have x0 := HX9.out.cell 0 _ rfl
        have x1 := HX9.out.cell 1 _ rfl
        have x2 := HX9.out.cell 2 _ rfl
        have x3 := HX9.out.cell 3 _ rfl
        have x4 := HX9.out.cell 4 _ rfl
        have xf := HX9.out.free
        have HSU := Lib.hid (show suitM ns (cnt + 1) fns nats gl r ⟨19, vd, ve, vc, BitVec.ofInt 64 0⟩ = true from suit3 (x := 2) (y := 2) (z := 1) (by rfl) Hvd.out Hve.out Hvc.out)
        have HOK := Lib.hid (show NI.ok64 ⟨19, vd, ve, vc, BitVec.ofInt 64 0⟩ from ⟨by unfold I64; dsimp only; omega, Hvd.out.i64, Hve.out.i64, Hvc.out.i64⟩)
        have HU := Lib.hid (U_ofInt 0 (by omega) (by omega))
        clear z5 x0 x1 x2 x3 x4 xf
        go_wp2_with fail
        go_meet
        exact ⟨⟨19, vd, ve, vc, BitVec.ofInt 64 0⟩, t8, HI9.out, by dsimp only; rw [HU.out]; exact HX9.out, HSU.out, HOK.out, by omega⟩
    · as_aux_lemma =>
        go_wp2_with fail
        refine (HR'.out _ _ HI6.out (by omega)).mono ?_
        rintro e w7 ⟨vd, rfl, hvd, t7, ht7, hT7, hg7⟩
        have HI7 := Lib.hid (HI6.out.step hT7 hg7 hgw)
        have Hvd := Lib.hid hvd
        have HX7 := Lib.hid (HX6.out.onlyN hg7 (by omega))
        clear hT7 hg7 hvd z5 x0 x1 x2 x3 x4 xf
        have z5 := HI7.out.b5.cell 0 _ rfl
        have x0 := HX7.out.cell 0 _ rfl
        have x1 := HX7.out.cell 1 _ rfl
        have x2 := HX7.out.cell 2 _ rfl
        have x3 := HX7.out.cell 3 _ rfl
        have x4 := HX7.out.cell 4 _ rfl
        have xf := HX7.out.free
        go_wp2_with fail
        refine (HR'.out _ _ HI7.out (by omega)).mono ?_
        rintro e w8 ⟨ve, rfl, hve, t8, ht8, hT8, hg8⟩
        have HI8 := Lib.hid (HI7.out.step hT8 hg8 hgw)
        have Hve := Lib.hid hve
        have HX8 := Lib.hid (HX7.out.onlyN hg8 (by omega))
        clear hT8 hg8 hve z5 x0 x1 x2 x3 x4 xf
        have z5 := HI8.out.b5.cell 0 _ rfl
        have x0 := HX8.out.cell 0 _ rfl
        have x1 := HX8.out.cell 1 _ rfl
        have x2 := HX8.out.cell 2 _ rfl
        have x3 := HX8.out.cell 3 _ rfl
        have x4 := HX8.out.cell 4 _ rfl
        have xf := HX8.out.free
        go_wp2_with fail
        have HI9 := Lib.hid ((HI8.out.set hgw hsw (p := ⟨xb, 1, none⟩) hxb (.int .i64 vd)).set hgw hsw (p := ⟨xb, 3, none⟩) hxb (.int .i64 ve))
        have HX9 := Lib.hid (show Blk ((w8.setCell ⟨xb, 1, none⟩ (.int .i64 vd)).setCell ⟨xb, 3, none⟩ (.int .i64 ve)) xb 55 #[.int .i64 20, .int .i64 vd, .int .i64 vb, .int .i64 ve, .int .u64 0] from ((HX8.out.set 1 (.int .i64 vd)).set 3 (.int .i64 ve)))
        obtain ⟨w9, hw9⟩ : ∃ w9, ((w8.setCell ⟨xb, 1, none⟩ (.int .i64 vd)).setCell ⟨xb, 3, none⟩ (.int .i64 ve)) = w9 := ⟨_, rfl⟩
        rw [hw9] at HI9 HX9 ⊢
        clear hw9 z5 x0 x1 x2 x3 x4 xf
        have z5 := HI9.out.b5.cell 0 _ rfl
        have x0 := HX9.out.cell 0 _ rfl
        have x1 := HX9.out.cell 1 _ rfl
        have x2 := HX9.out.cell 2 _ rfl
        have x3 := HX9.out.cell 3 _ rfl
        have x4 := HX9.out.cell 4 _ rfl
        have xf := HX9.out.free
        have HSU := Lib.hid (show suitM ns (cnt + 1) fns nats gl r ⟨20, vd, vb, ve, BitVec.ofInt 64 0⟩ = true from suit3 (x := 2) (y := 1) (z := 2) (by rfl) Hvd.out Hvb.out Hve.out)
        have HOK := Lib.hid (show NI.ok64 ⟨20, vd, vb, ve, BitVec.ofInt 64 0⟩ from ⟨by unfold I64; dsimp only; omega, Hvd.out.i64, Hvb.out.i64, Hve.out.i64⟩)
        have HU := Lib.hid (U_ofInt 0 (by omega) (by omega))
        clear z5 x0 x1 x2 x3 x4 xf
        go_wp2_with fail
        go_meet
        exact ⟨⟨20, vd, vb, ve, BitVec.ofInt 64 0⟩, t8, HI9.out, by dsimp only; rw [HU.out]; exact HX9.out, HSU.out, HOK.out, by omega⟩
    · as_aux_lemma =>
        skip
        have hnf1 := HP.out.nf1
        have hnf3 := HP.out.nf3
        have b1 := HI6.out.b6.cell 1 _ rfl
        go_wp2_with fail
        refine (HNX.out _ _ (nf : Int) HI6.out.tape (by omega) (by omega)).mono ?_
        rintro e w7 ⟨vk, rfl, hvk0, hvk1, t7, ht7, hT7, hg7⟩
        have HI7 := Lib.hid (HI6.out.step hT7 hg7 hgw)
        have HX7 := Lib.hid (HX6.out.onlyN hg7 (by omega))
        clear hT7 hg7 z5 x0 x1 x2 x3 x4 xf
        have z5 := HI7.out.b5.cell 0 _ rfl
        have x0 := HX7.out.cell 0 _ rfl
        have x1 := HX7.out.cell 1 _ rfl
        have x2 := HX7.out.cell 2 _ rfl
        have x3 := HX7.out.cell 3 _ rfl
        have x4 := HX7.out.cell 4 _ rfl
        have xf := HX7.out.free
        obtain ⟨kn, rfl⟩ : ∃ kn : Nat, vk = kn := ⟨vk.toNat, by omega⟩
        have hkn : kn < nf := by omega
        have wv : IntKind.u64.wrap (kn : Int) = (kn : Int) := IntWalk.u64_in _ ⟨by omega, by omega⟩
        clear b1 hvk0 hvk1
        go_upto_region 39 with fail
        obtain ⟨bF, oF, fx, hFe, -, hfx, hcF⟩ := HP.out.fr.elem fcCells_len (by omega) hkn
        obtain ⟨f, hf⟩ : ∃ f, fns[kn]? = some f := ⟨_, List.getElem?_eq_getElem (by have := HP.out.len; have := HP.out.fr.length fcCells_len (by omega); omega)⟩
        have hfi := HP.out.each kn fx f hfx hf
        have hFf := HP.out.ff bF oF (by omega) hFe
        obtain ⟨fp, fA, fn, fc', fr, fB, fm, fe⟩ := fx
        have e0 : fp = f.p := hfi.p
        have e1 : fr = f.r := hfi.r
        obtain ⟨q, hq⟩ : ∃ q : Nat, f.p = q := ⟨f.p.toNat, by have := hfi.ok.p0; omega⟩
        rw [hq] at e0
        subst e0
        have c0 := hcF 0 _ rfl
        have c1 := hcF 1 _ rfl
        have c2 := hcF 2 _ rfl
        have c3 := hcF 3 _ rfl
        rw [Nat.add_zero] at c0
        dsimp only at c0 c1 c2 c3
        have hfl := hfi.locs.length (f := intCells) (fun _ => rfl) (by omega)
        dsimp only at hfl
        have hfle : fn ≤ fc' := hfi.locs.le
        have hq2 := hfi.ok.p2
        have hf4 := hfi.ok.n4
        have hf7 := hfi.ok.n7
        have hqq : q ≤ 2 := by omega
        have HFI := Lib.hid hfi
        have HFK := Lib.hid hf
        have HQ := Lib.hid hq
        have HE1 := Lib.hid e1
        have HFL := Lib.hid hfl
        subst hFe
        clear hcF hfx hf hfi
        have HI8 := Lib.hid (HI7.out.set hgw hsw (p := ⟨xb, 4, none⟩) hxb (.int .u64 (kn : Int)))
        have HX8 := Lib.hid (show Blk (w7.setCell ⟨xb, 4, none⟩ (.int .u64 (kn : Int))) xb 55 #[.int .i64 21, .int .i64 va, .int .i64 vb, .int .i64 vc, .int .u64 (kn : Int)] from (HX7.out.set 4 (.int .u64 (kn : Int))))
        obtain ⟨w8, hw8⟩ : ∃ w8, (w7.setCell ⟨xb, 4, none⟩ (.int .u64 (kn : Int))) = w8 := ⟨_, rfl⟩
        rw [hw8] at HI8 HX8 ⊢
        clear hw8 z5 x0 x1 x2 x3 x4 xf
        have z5 := HI8.out.b5.cell 0 _ rfl
        have x0 := HX8.out.cell 0 _ rfl
        have x1 := HX8.out.cell 1 _ rfl
        have x2 := HX8.out.cell 2 _ rfl
        have x3 := HX8.out.cell 3 _ rfl
        have x4 := HX8.out.cell 4 _ rfl
        have xf := HX8.out.free
        have d0 := HI8.out.only.cell c0 (by simp; omega)
        have d1 := HI8.out.only.cell c1 (by simp; omega)
        have d2 := HI8.out.only.cell c2 (by simp; omega)
        have d3 := HI8.out.only.cell c3 (by simp; omega)
        have b1 := HI8.out.b6.cell 1 _ rfl
        have k0 : (0 : Int) ≤ (kn : Int) := by omega
        have k1 : (kn : Int) < (nf : Int) := by omega
        clear hfl e1 hq
        go_upto_region 40 with fail
        have hBg : Below w8.heap.size w8 (w8.alloc (.cells #[.int .i64 (q : Int), .slice fA fn fc', .int .i64 fr, .slice fB fm fe] 44)) := keep_alloc (Below.refl _ _) _
        have HI9 := Lib.hid (HI8.out.below hBg)
        have HX9 := Lib.hid (HX8.out.below hBg)
        have HG9 := Lib.hid (Blk.new w8 #[.int .i64 (q : Int), .slice fA fn fc', .int .i64 fr, .slice fB fm fe] 44)
        have hgx := HX8.out.lt
        have hgs := HI8.out.b10.lt
        obtain ⟨gb, hgb⟩ : ∃ gb, w8.heap.size = gb := ⟨_, rfl⟩
        obtain ⟨w9, hw9⟩ : ∃ w9, w8.alloc (.cells #[.int .i64 (q : Int), .slice fA fn fc', .int .i64 fr, .slice fB fm fe] 44) = w9 := ⟨_, rfl⟩
        rw [hw9] at HI9 HX9 HG9 ⊢
        rw [hgb] at HG9 hgx hgs ⊢
        clear hw9 hgb hBg d0 d1 d2 d3 b1 z5 x0 x1 x2 x3 x4 xf
        have z5 := HI9.out.b5.cell 0 _ rfl
        have x0 := HX9.out.cell 0 _ rfl
        have x1 := HX9.out.cell 1 _ rfl
        have x2 := HX9.out.cell 2 _ rfl
        have x3 := HX9.out.cell 3 _ rfl
        have x4 := HX9.out.cell 4 _ rfl
        have xf := HX9.out.free
        by_cases hr2 : fr = 2
        · have s0 : (fr == 2) = true := by simp [hr2]
          have r2 := HG9.out.cell 2 _ rfl
          obtain ⟨t9, ht9⟩ : ∃ t9, t7 = t9 := ⟨_, rfl⟩
          rw [ht9] at HI9
          go_wp2_with fail
          refine (HR'.out _ _ HI9.out (by omega)).mono ?_
          rintro e w10 ⟨vd, rfl, hvd, t10, ht10, hT10, hg10⟩
          have HI10 := Lib.hid (HI9.out.step hT10 hg10 hgw)
          have Hvd := Lib.hid hvd
          have HX10 := Lib.hid (HX9.out.onlyN hg10 (by omega))
          have HG10 := Lib.hid (HG9.out.onlyN hg10 (by omega))
          clear hT10 hg10 hvd z5 x0 x1 x2 x3 x4 xf
          have z5 := HI10.out.b5.cell 0 _ rfl
          have x0 := HX10.out.cell 0 _ rfl
          have x1 := HX10.out.cell 1 _ rfl
          have x2 := HX10.out.cell 2 _ rfl
          have x3 := HX10.out.cell 3 _ rfl
          have x4 := HX10.out.cell 4 _ rfl
          have xf := HX10.out.free
          clear r2
          go_upto_region 42 with fail
          have HI11 := Lib.hid (HI10.out.set hgw hsw (p := ⟨xb, 1, none⟩) hxb (.int .i64 vd))
          have HX11 := Lib.hid (show Blk (w10.setCell ⟨xb, 1, none⟩ (.int .i64 vd)) xb 55 #[.int .i64 21, .int .i64 vd, .int .i64 vb, .int .i64 vc, .int .u64 (kn : Int)] from (HX10.out.set 1 (.int .i64 vd)))
          have HG11 := Lib.hid (HG10.out.far (p := ⟨xb, 1, none⟩) (by show gb ≠ xb; omega) (.int .i64 vd))
          obtain ⟨w11, hw11⟩ : ∃ w11, (w10.setCell ⟨xb, 1, none⟩ (.int .i64 vd)) = w11 := ⟨_, rfl⟩
          rw [hw11] at HI11 HX11 HG11 ⊢
          clear hw11 z5 x0 x1 x2 x3 x4 xf
          have z5 := HI11.out.b5.cell 0 _ rfl
          have x0 := HX11.out.cell 0 _ rfl
          have x1 := HX11.out.cell 1 _ rfl
          have x2 := HX11.out.cell 2 _ rfl
          have x3 := HX11.out.cell 3 _ rfl
          have x4 := HX11.out.cell 4 _ rfl
          have xf := HX11.out.free
          have hln := HA.out.length (f := intCells) (fun _ => rfl) (by omega)
          have hfl := HFL.out
          have h4 := HH.out.n4
          have h7 := HH.out.n7
          have kq0 : (0 : Int) ≤ (q : Int) := by omega
          have kq1 : (q : Int) ≤ (fc' : Int) := by omega
          have kq2 : q ≤ fc' := by omega
          have L5 : ∀ u, (∃ tq, ISt w u g tq s #[.slice S ns cs, .slice (some ⟨bF, oF, none⟩) nf cf, .slice N nn cn] #[.int .i64 p, .slice A n c, .int .i64 r, .slice B m d]) ∧ u.cell? ⟨gb, 0, none⟩ = some (.int .i64 (q : Int)) ∧ u.cell? ⟨gb, 1, none⟩ = some (.slice fA fn fc') → u.cell? ⟨s, 0, none⟩ = some (.pointer (some ⟨g, 0, none⟩)) := fun u ⟨⟨_, h⟩, _⟩ => h.b5.cell 0 _ rfl
          have L70 : ∀ u, (∃ tq, ISt w u g tq s #[.slice S ns cs, .slice (some ⟨bF, oF, none⟩) nf cf, .slice N nn cn] #[.int .i64 p, .slice A n c, .int .i64 r, .slice B m d]) ∧ u.cell? ⟨gb, 0, none⟩ = some (.int .i64 (q : Int)) ∧ u.cell? ⟨gb, 1, none⟩ = some (.slice fA fn fc') → u.cell? ⟨s + 1 + 1, 0, none⟩ = some (.int .i64 p) := fun u ⟨⟨_, h⟩, _⟩ => h.b7.cell 0 _ rfl
          have L71 : ∀ u, (∃ tq, ISt w u g tq s #[.slice S ns cs, .slice (some ⟨bF, oF, none⟩) nf cf, .slice N nn cn] #[.int .i64 p, .slice A n c, .int .i64 r, .slice B m d]) ∧ u.cell? ⟨gb, 0, none⟩ = some (.int .i64 (q : Int)) ∧ u.cell? ⟨gb, 1, none⟩ = some (.slice fA fn fc') → u.cell? ⟨s + 1 + 1, 1, none⟩ = some (.slice A n c) := fun u ⟨⟨_, h⟩, _⟩ => h.b7.cell 1 _ rfl
          have L72 : ∀ u, (∃ tq, ISt w u g tq s #[.slice S ns cs, .slice (some ⟨bF, oF, none⟩) nf cf, .slice N nn cn] #[.int .i64 p, .slice A n c, .int .i64 r, .slice B m d]) ∧ u.cell? ⟨gb, 0, none⟩ = some (.int .i64 (q : Int)) ∧ u.cell? ⟨gb, 1, none⟩ = some (.slice fA fn fc') → u.cell? ⟨s + 1 + 1, 2, none⟩ = some (.int .i64 r) := fun u ⟨⟨_, h⟩, _⟩ => h.b7.cell 2 _ rfl
          have L73 : ∀ u, (∃ tq, ISt w u g tq s #[.slice S ns cs, .slice (some ⟨bF, oF, none⟩) nf cf, .slice N nn cn] #[.int .i64 p, .slice A n c, .int .i64 r, .slice B m d]) ∧ u.cell? ⟨gb, 0, none⟩ = some (.int .i64 (q : Int)) ∧ u.cell? ⟨gb, 1, none⟩ = some (.slice fA fn fc') → u.cell? ⟨s + 1 + 1, 3, none⟩ = some (.slice B m d) := fun u ⟨⟨_, h⟩, _⟩ => h.b7.cell 3 _ rfl
          have LG0 : ∀ u, (∃ tq, ISt w u g tq s #[.slice S ns cs, .slice (some ⟨bF, oF, none⟩) nf cf, .slice N nn cn] #[.int .i64 p, .slice A n c, .int .i64 r, .slice B m d]) ∧ u.cell? ⟨gb, 0, none⟩ = some (.int .i64 (q : Int)) ∧ u.cell? ⟨gb, 1, none⟩ = some (.slice fA fn fc') → u.cell? ⟨gb, 0, none⟩ = some (.int .i64 (q : Int)) := fun u h => h.2.1
          have LG1 : ∀ u, (∃ tq, ISt w u g tq s #[.slice S ns cs, .slice (some ⟨bF, oF, none⟩) nf cf, .slice N nn cn] #[.int .i64 p, .slice A n c, .int .i64 r, .slice B m d]) ∧ u.cell? ⟨gb, 0, none⟩ = some (.int .i64 (q : Int)) ∧ u.cell? ⟨gb, 1, none⟩ = some (.slice fA fn fc') → u.cell? ⟨gb, 1, none⟩ = some (.slice fA fn fc') := fun u h => h.2.2
          have HST := Lib.hid (start_any g t10 p A n c r B m d gl fA q fc' (f.locs.take q) w11.drew HI11.out.drew.tape (by omega) (HA.out.tape HFA.out HI11.out.drew.only) HFA.out (by omega) (by omega) (reads_take (HFI.out.locs.tape HFI.out.far HI11.out.drew.only) q (by dsimp only; omega)) (fun b off _ e => HFI.out.far b off (by dsimp only; omega) e) (by omega))
          have HLN := Lib.hid hln
          clear hln hfl z5 x0 x1 x2 x3 x4 xf
          go_region_held3 (fun u => (∃ tq, ISt w u g tq s #[.slice S ns cs, .slice (some ⟨bF, oF, none⟩) nf cf, .slice N nn cn] #[.int .i64 p, .slice A n c, .int .i64 r, .slice B m d]) ∧ u.cell? ⟨gb, 0, none⟩ = some (.int .i64 (q : Int)) ∧ u.cell? ⟨gb, 1, none⟩ = some (.slice fA fn fc')) (first | exact ⟨⟨_, HI11.out.drew⟩, HG11.out.cell 0 _ rfl, HG11.out.cell 1 _ rfl⟩ | exact ⟨⟨_, HI12.out⟩, HG12.out.cell 0 _ rfl, HG12.out.cell 1 _ rfl⟩ | exact ⟨⟨_, HI12.out.set hgw hsw (p := ⟨xb, 2, none⟩) hxb _⟩, (HG12.out.far (show gb ≠ xb by omega) _).cell 0 _ rfl, (HG12.out.far (show gb ≠ xb by omega) _).cell 1 _ rfl⟩) ((go_at_call 71; refine HST.out.mono ?_; rintro e w12 ⟨vi, rfl, hvi, t12, ht12, hT12, hg12⟩; have HI12 := Lib.hid (HI11.out.drew.step hT12 hg12 hgw); have HX12 := Lib.hid (Blk.onlyN (show Blk w11.drew xb 55 #[.int .i64 21, .int .i64 vd, .int .i64 vb, .int .i64 vc, .int .u64 (kn : Int)] from HX11.out) hg12 (by omega)); have HG12 := Lib.hid (Blk.onlyN (show Blk w11.drew gb 44 #[.int .i64 (q : Int), .slice fA fn fc', .int .i64 fr, .slice fB fm fe] from HG11.out) hg12 (by omega)); have x2 := HX12.out.cell 2 _ rfl; have xf := HX12.out.free; clear hT12 hg12 HST))
          clear L5 L70 L71 L72 L73 LG0 LG1
          have HVI := Lib.hid hvi
          clear hvi
          have z5 := HI12.out.b5.cell 0 _ rfl
          have x0 := HX12.out.cell 0 _ rfl
          have x1 := HX12.out.cell 1 _ rfl
          have x3 := HX12.out.cell 3 _ rfl
          have x4 := HX12.out.cell 4 _ rfl
          go_upto_region 43 with fail
          have HI13 := Lib.hid (HI12.out.set hgw hsw (p := ⟨xb, 2, none⟩) hxb (.int .i64 vi))
          have HX13 := Lib.hid (show Blk (w12.setCell ⟨xb, 2, none⟩ (.int .i64 vi)) xb 55 #[.int .i64 21, .int .i64 vd, .int .i64 vi, .int .i64 vc, .int .u64 (kn : Int)] from (HX12.out.set 2 (.int .i64 vi)))
          obtain ⟨w13, hw13⟩ : ∃ w13, (w12.setCell ⟨xb, 2, none⟩ (.int .i64 vi)) = w13 := ⟨_, rfl⟩
          rw [hw13] at HI13 HX13 ⊢
          clear hw13 z5 x0 x1 x2 x3 x4 xf
          have z5 := HI13.out.b5.cell 0 _ rfl
          have x0 := HX13.out.cell 0 _ rfl
          have x1 := HX13.out.cell 1 _ rfl
          have x2 := HX13.out.cell 2 _ rfl
          have x3 := HX13.out.cell 3 _ rfl
          have x4 := HX13.out.cell 4 _ rfl
          have xf := HX13.out.free
          rcases HVI.out with rfl | ⟨bn, rfl, hfo⟩
          · go_wp2_with fail
            refine (HI'.out _ _ HI13.out (by omega)).mono ?_
            rintro e w14 ⟨vo, rfl, hvo, t14, ht14, hT14, hg14⟩
            have HI14 := Lib.hid (HI13.out.step hT14 hg14 hgw)
            have Hvo := Lib.hid hvo
            have HX14 := Lib.hid (HX13.out.onlyN hg14 (by omega))
            clear hT14 hg14 hvo z5 x0 x1 x2 x3 x4 xf
            have z5 := HI14.out.b5.cell 0 _ rfl
            have x0 := HX14.out.cell 0 _ rfl
            have x1 := HX14.out.cell 1 _ rfl
            have x2 := HX14.out.cell 2 _ rfl
            have x3 := HX14.out.cell 3 _ rfl
            have x4 := HX14.out.cell 4 _ rfl
            have xf := HX14.out.free
            have y0 := HI14.out.b10.cell 0 _ rfl
            have y1 := HI14.out.b10.cell 1 _ rfl
            have y2 := HI14.out.b10.cell 2 _ rfl
            have y3 := HI14.out.b10.cell 3 _ rfl
            have y4 := HI14.out.b10.cell 4 _ rfl
            have yf := HI14.out.b10.free
            have X10 := ((((HI14.out.b10.set 0 (.int .i64 23)).set 1 (.int .i64 vo)).set 2 (.int .i64 0)).set 3 (.int .i64 0)).set 4 (.int .u64 0)
            have q0 := X10.cell 0 _ rfl
            have q1 := X10.cell 1 _ rfl
            have q2 := X10.cell 2 _ rfl
            have q3 := X10.cell 3 _ rfl
            have q4 := X10.cell 4 _ rfl
            have HT := Lib.hid (HI14.out.fin hgw hsw (.int .i64 23) (.int .i64 vo) (.int .i64 0) (.int .i64 0) (.int .u64 0))
            clear X10 z5 x0 x1 x2 x3 x4 xf
            go_wp2_with fail
            refine bodyPost_ret (v := .agg #[.int .i64 23, .int .i64 vo, .int .i64 0, .int .i64 0, .int .u64 0]) (by simp [results, Tryd.results56, go_sem, y0, y1, y2, y3, y4]) rfl ?_
            exact ⟨⟨23, vo, 0, 0, 0#64⟩, rfl, suit1 (x := 1) (by rfl) Hvo.out (byte_nat (j := 0) (by omega)) (byte_nat (j := 0) (by omega)), ⟨by unfold I64; dsimp only; omega, Hvo.out.i64, by unfold I64; dsimp only; omega, by unfold I64; dsimp only; omega⟩, t14, by omega, HT.out.1, HT.out.2⟩
          · have s2 : decide ((bn : Int) < 0) = false := decide_eq_false (by omega)
            have HFO := Lib.hid hfo
            have hbn7 : bn ≤ 7 := by have := hfo.1; have := HH.out.n7; omega
            clear hfo
            have HSU := Lib.hid (show suitM ns (cnt + 1) fns nats gl r ⟨21, vd, (bn : Int), vc, BitVec.ofInt 64 (kn : Int)⟩ = true from suit_call (kn := kn) (bn := bn) (q := q) (U_ofInt (kn : Int) (by omega) (by omega)) HFK.out HQ.out (by omega) (by rw [← HE1.out]; exact (show At gl vd fr from by rw [hr2]; exact Hvd.out)) rfl hbn7 HFO.out (by have := HFL.out; omega) Hvc.out.byte)
            have HOK := Lib.hid (show NI.ok64 ⟨21, vd, (bn : Int), vc, BitVec.ofInt 64 (kn : Int)⟩ from ⟨by unfold I64; dsimp only; omega, Hvd.out.i64, by unfold I64; dsimp only; omega, Hvc.out.i64⟩)
            have HU := Lib.hid (U_ofInt (kn : Int) (by omega) (by omega))
            clear z5 x0 x1 x3 x4 xf
            go_wp2_with fail
            go_meet
            exact ⟨⟨21, vd, (bn : Int), vc, BitVec.ofInt 64 (kn : Int)⟩, t12, HI13.out, by dsimp only; rw [HU.out]; exact HX13.out, HSU.out, HOK.out, by omega⟩
        · have s0 : (fr == 2) = false := by simp [hr2]
          have r2 := HG9.out.cell 2 _ rfl
          obtain ⟨t9, ht9⟩ : ∃ t9, t7 = t9 := ⟨_, rfl⟩
          rw [ht9] at HI9
          go_upto_region 42 with fail
          clear r2
          have hr1 : fr = 1 := by have := HFI.out.ok.r12; have := HE1.out; omega
          have hln := HA.out.length (f := intCells) (fun _ => rfl) (by omega)
          have hfl := HFL.out
          have h4 := HH.out.n4
          have h7 := HH.out.n7
          have kq0 : (0 : Int) ≤ (q : Int) := by omega
          have kq1 : (q : Int) ≤ (fc' : Int) := by omega
          have kq2 : q ≤ fc' := by omega
          have L5 : ∀ u, (∃ tq, ISt w u g tq s #[.slice S ns cs, .slice (some ⟨bF, oF, none⟩) nf cf, .slice N nn cn] #[.int .i64 p, .slice A n c, .int .i64 r, .slice B m d]) ∧ u.cell? ⟨gb, 0, none⟩ = some (.int .i64 (q : Int)) ∧ u.cell? ⟨gb, 1, none⟩ = some (.slice fA fn fc') → u.cell? ⟨s, 0, none⟩ = some (.pointer (some ⟨g, 0, none⟩)) := fun u ⟨⟨_, h⟩, _⟩ => h.b5.cell 0 _ rfl
          have L70 : ∀ u, (∃ tq, ISt w u g tq s #[.slice S ns cs, .slice (some ⟨bF, oF, none⟩) nf cf, .slice N nn cn] #[.int .i64 p, .slice A n c, .int .i64 r, .slice B m d]) ∧ u.cell? ⟨gb, 0, none⟩ = some (.int .i64 (q : Int)) ∧ u.cell? ⟨gb, 1, none⟩ = some (.slice fA fn fc') → u.cell? ⟨s + 1 + 1, 0, none⟩ = some (.int .i64 p) := fun u ⟨⟨_, h⟩, _⟩ => h.b7.cell 0 _ rfl
          have L71 : ∀ u, (∃ tq, ISt w u g tq s #[.slice S ns cs, .slice (some ⟨bF, oF, none⟩) nf cf, .slice N nn cn] #[.int .i64 p, .slice A n c, .int .i64 r, .slice B m d]) ∧ u.cell? ⟨gb, 0, none⟩ = some (.int .i64 (q : Int)) ∧ u.cell? ⟨gb, 1, none⟩ = some (.slice fA fn fc') → u.cell? ⟨s + 1 + 1, 1, none⟩ = some (.slice A n c) := fun u ⟨⟨_, h⟩, _⟩ => h.b7.cell 1 _ rfl
          have L72 : ∀ u, (∃ tq, ISt w u g tq s #[.slice S ns cs, .slice (some ⟨bF, oF, none⟩) nf cf, .slice N nn cn] #[.int .i64 p, .slice A n c, .int .i64 r, .slice B m d]) ∧ u.cell? ⟨gb, 0, none⟩ = some (.int .i64 (q : Int)) ∧ u.cell? ⟨gb, 1, none⟩ = some (.slice fA fn fc') → u.cell? ⟨s + 1 + 1, 2, none⟩ = some (.int .i64 r) := fun u ⟨⟨_, h⟩, _⟩ => h.b7.cell 2 _ rfl
          have L73 : ∀ u, (∃ tq, ISt w u g tq s #[.slice S ns cs, .slice (some ⟨bF, oF, none⟩) nf cf, .slice N nn cn] #[.int .i64 p, .slice A n c, .int .i64 r, .slice B m d]) ∧ u.cell? ⟨gb, 0, none⟩ = some (.int .i64 (q : Int)) ∧ u.cell? ⟨gb, 1, none⟩ = some (.slice fA fn fc') → u.cell? ⟨s + 1 + 1, 3, none⟩ = some (.slice B m d) := fun u ⟨⟨_, h⟩, _⟩ => h.b7.cell 3 _ rfl
          have LG0 : ∀ u, (∃ tq, ISt w u g tq s #[.slice S ns cs, .slice (some ⟨bF, oF, none⟩) nf cf, .slice N nn cn] #[.int .i64 p, .slice A n c, .int .i64 r, .slice B m d]) ∧ u.cell? ⟨gb, 0, none⟩ = some (.int .i64 (q : Int)) ∧ u.cell? ⟨gb, 1, none⟩ = some (.slice fA fn fc') → u.cell? ⟨gb, 0, none⟩ = some (.int .i64 (q : Int)) := fun u h => h.2.1
          have LG1 : ∀ u, (∃ tq, ISt w u g tq s #[.slice S ns cs, .slice (some ⟨bF, oF, none⟩) nf cf, .slice N nn cn] #[.int .i64 p, .slice A n c, .int .i64 r, .slice B m d]) ∧ u.cell? ⟨gb, 0, none⟩ = some (.int .i64 (q : Int)) ∧ u.cell? ⟨gb, 1, none⟩ = some (.slice fA fn fc') → u.cell? ⟨gb, 1, none⟩ = some (.slice fA fn fc') := fun u h => h.2.2
          have HST := Lib.hid (start_any g t9 p A n c r B m d gl fA q fc' (f.locs.take q) w9.drew HI9.out.drew.tape (by omega) (HA.out.tape HFA.out HI9.out.drew.only) HFA.out (by omega) (by omega) (reads_take (HFI.out.locs.tape HFI.out.far HI9.out.drew.only) q (by dsimp only; omega)) (fun b off _ e => HFI.out.far b off (by dsimp only; omega) e) (by omega))
          have HLN := Lib.hid hln
          clear hln hfl z5 x0 x1 x2 x3 x4 xf
          go_region_held3 (fun u => (∃ tq, ISt w u g tq s #[.slice S ns cs, .slice (some ⟨bF, oF, none⟩) nf cf, .slice N nn cn] #[.int .i64 p, .slice A n c, .int .i64 r, .slice B m d]) ∧ u.cell? ⟨gb, 0, none⟩ = some (.int .i64 (q : Int)) ∧ u.cell? ⟨gb, 1, none⟩ = some (.slice fA fn fc')) (first | exact ⟨⟨_, HI9.out.drew⟩, HG9.out.cell 0 _ rfl, HG9.out.cell 1 _ rfl⟩ | exact ⟨⟨_, HI10.out⟩, HG10.out.cell 0 _ rfl, HG10.out.cell 1 _ rfl⟩ | exact ⟨⟨_, HI10.out.set hgw hsw (p := ⟨xb, 2, none⟩) hxb _⟩, (HG10.out.far (show gb ≠ xb by omega) _).cell 0 _ rfl, (HG10.out.far (show gb ≠ xb by omega) _).cell 1 _ rfl⟩) ((go_at_call 71; refine HST.out.mono ?_; rintro e w10 ⟨vi, rfl, hvi, t10, ht10, hT10, hg10⟩; have HI10 := Lib.hid (HI9.out.drew.step hT10 hg10 hgw); have HX10 := Lib.hid (Blk.onlyN (show Blk w9.drew xb 55 #[.int .i64 21, .int .i64 va, .int .i64 vb, .int .i64 vc, .int .u64 (kn : Int)] from HX9.out) hg10 (by omega)); have HG10 := Lib.hid (Blk.onlyN (show Blk w9.drew gb 44 #[.int .i64 (q : Int), .slice fA fn fc', .int .i64 fr, .slice fB fm fe] from HG9.out) hg10 (by omega)); have x2 := HX10.out.cell 2 _ rfl; have xf := HX10.out.free; clear hT10 hg10 HST))
          clear L5 L70 L71 L72 L73 LG0 LG1
          have HVI := Lib.hid hvi
          clear hvi
          have z5 := HI10.out.b5.cell 0 _ rfl
          have x0 := HX10.out.cell 0 _ rfl
          have x1 := HX10.out.cell 1 _ rfl
          have x3 := HX10.out.cell 3 _ rfl
          have x4 := HX10.out.cell 4 _ rfl
          go_upto_region 43 with fail
          have HI11 := Lib.hid (HI10.out.set hgw hsw (p := ⟨xb, 2, none⟩) hxb (.int .i64 vi))
          have HX11 := Lib.hid (show Blk (w10.setCell ⟨xb, 2, none⟩ (.int .i64 vi)) xb 55 #[.int .i64 21, .int .i64 va, .int .i64 vi, .int .i64 vc, .int .u64 (kn : Int)] from (HX10.out.set 2 (.int .i64 vi)))
          obtain ⟨w11, hw11⟩ : ∃ w11, (w10.setCell ⟨xb, 2, none⟩ (.int .i64 vi)) = w11 := ⟨_, rfl⟩
          rw [hw11] at HI11 HX11 ⊢
          clear hw11 z5 x0 x1 x2 x3 x4 xf
          have z5 := HI11.out.b5.cell 0 _ rfl
          have x0 := HX11.out.cell 0 _ rfl
          have x1 := HX11.out.cell 1 _ rfl
          have x2 := HX11.out.cell 2 _ rfl
          have x3 := HX11.out.cell 3 _ rfl
          have x4 := HX11.out.cell 4 _ rfl
          have xf := HX11.out.free
          rcases HVI.out with rfl | ⟨bn, rfl, hfo⟩
          · go_wp2_with fail
            refine (HI'.out _ _ HI11.out (by omega)).mono ?_
            rintro e w12 ⟨vo, rfl, hvo, t12, ht12, hT12, hg12⟩
            have HI12 := Lib.hid (HI11.out.step hT12 hg12 hgw)
            have Hvo := Lib.hid hvo
            have HX12 := Lib.hid (HX11.out.onlyN hg12 (by omega))
            clear hT12 hg12 hvo z5 x0 x1 x2 x3 x4 xf
            have z5 := HI12.out.b5.cell 0 _ rfl
            have x0 := HX12.out.cell 0 _ rfl
            have x1 := HX12.out.cell 1 _ rfl
            have x2 := HX12.out.cell 2 _ rfl
            have x3 := HX12.out.cell 3 _ rfl
            have x4 := HX12.out.cell 4 _ rfl
            have xf := HX12.out.free
            have y0 := HI12.out.b10.cell 0 _ rfl
            have y1 := HI12.out.b10.cell 1 _ rfl
            have y2 := HI12.out.b10.cell 2 _ rfl
            have y3 := HI12.out.b10.cell 3 _ rfl
            have y4 := HI12.out.b10.cell 4 _ rfl
            have yf := HI12.out.b10.free
            have X10 := ((((HI12.out.b10.set 0 (.int .i64 23)).set 1 (.int .i64 vo)).set 2 (.int .i64 0)).set 3 (.int .i64 0)).set 4 (.int .u64 0)
            have q0 := X10.cell 0 _ rfl
            have q1 := X10.cell 1 _ rfl
            have q2 := X10.cell 2 _ rfl
            have q3 := X10.cell 3 _ rfl
            have q4 := X10.cell 4 _ rfl
            have HT := Lib.hid (HI12.out.fin hgw hsw (.int .i64 23) (.int .i64 vo) (.int .i64 0) (.int .i64 0) (.int .u64 0))
            clear X10 z5 x0 x1 x2 x3 x4 xf
            go_wp2_with fail
            refine bodyPost_ret (v := .agg #[.int .i64 23, .int .i64 vo, .int .i64 0, .int .i64 0, .int .u64 0]) (by simp [results, Tryd.results56, go_sem, y0, y1, y2, y3, y4]) rfl ?_
            exact ⟨⟨23, vo, 0, 0, 0#64⟩, rfl, suit1 (x := 1) (by rfl) Hvo.out (byte_nat (j := 0) (by omega)) (byte_nat (j := 0) (by omega)), ⟨by unfold I64; dsimp only; omega, Hvo.out.i64, by unfold I64; dsimp only; omega, by unfold I64; dsimp only; omega⟩, t12, by omega, HT.out.1, HT.out.2⟩
          · have s2 : decide ((bn : Int) < 0) = false := decide_eq_false (by omega)
            have HFO := Lib.hid hfo
            have hbn7 : bn ≤ 7 := by have := hfo.1; have := HH.out.n7; omega
            clear hfo
            have HSU := Lib.hid (show suitM ns (cnt + 1) fns nats gl r ⟨21, va, (bn : Int), vc, BitVec.ofInt 64 (kn : Int)⟩ = true from suit_call (kn := kn) (bn := bn) (q := q) (U_ofInt (kn : Int) (by omega) (by omega)) HFK.out HQ.out (by omega) (by rw [← HE1.out]; exact (show At gl va fr from by rw [hr1]; exact Hva.out)) rfl hbn7 HFO.out (by have := HFL.out; omega) Hvc.out.byte)
            have HOK := Lib.hid (show NI.ok64 ⟨21, va, (bn : Int), vc, BitVec.ofInt 64 (kn : Int)⟩ from ⟨by unfold I64; dsimp only; omega, Hva.out.i64, by unfold I64; dsimp only; omega, Hvc.out.i64⟩)
            have HU := Lib.hid (U_ofInt (kn : Int) (by omega) (by omega))
            clear z5 x0 x1 x3 x4 xf
            go_wp2_with fail
            go_meet
            exact ⟨⟨21, va, (bn : Int), vc, BitVec.ofInt 64 (kn : Int)⟩, t10, HI11.out, by dsimp only; rw [HU.out]; exact HX11.out, HSU.out, HOK.out, by omega⟩
    · as_aux_lemma =>
        skip
        by_cases hnn : nn = 0
        · have s0 : ((nn : Int) == 0) = true := by simp [hnn]
          have b2 := HI6.out.b6.cell 2 _ rfl
          go_wp2_with fail
          refine (HI'.out _ _ HI6.out (by omega)).mono ?_
          rintro e w7 ⟨vd, rfl, hvd, t7, ht7, hT7, hg7⟩
          have HI7 := Lib.hid (HI6.out.step hT7 hg7 hgw)
          have Hvd := Lib.hid hvd
          have HX7 := Lib.hid (HX6.out.onlyN hg7 (by omega))
          clear hT7 hg7 hvd z5 x0 x1 x2 x3 x4 xf
          have z5 := HI7.out.b5.cell 0 _ rfl
          have x0 := HX7.out.cell 0 _ rfl
          have x1 := HX7.out.cell 1 _ rfl
          have x2 := HX7.out.cell 2 _ rfl
          have x3 := HX7.out.cell 3 _ rfl
          have x4 := HX7.out.cell 4 _ rfl
          have xf := HX7.out.free
          clear b2
          have y0 := HI7.out.b10.cell 0 _ rfl
          have y1 := HI7.out.b10.cell 1 _ rfl
          have y2 := HI7.out.b10.cell 2 _ rfl
          have y3 := HI7.out.b10.cell 3 _ rfl
          have y4 := HI7.out.b10.cell 4 _ rfl
          have yf := HI7.out.b10.free
          have X10 := ((((HI7.out.b10.set 0 (.int .i64 23)).set 1 (.int .i64 vd)).set 2 (.int .i64 0)).set 3 (.int .i64 0)).set 4 (.int .u64 0)
          have q0 := X10.cell 0 _ rfl
          have q1 := X10.cell 1 _ rfl
          have q2 := X10.cell 2 _ rfl
          have q3 := X10.cell 3 _ rfl
          have q4 := X10.cell 4 _ rfl
          have HT := Lib.hid (HI7.out.fin hgw hsw (.int .i64 23) (.int .i64 vd) (.int .i64 0) (.int .i64 0) (.int .u64 0))
          clear X10 z5 x0 x1 x2 x3 x4 xf
          go_wp2_with fail
          refine bodyPost_ret (v := .agg #[.int .i64 23, .int .i64 vd, .int .i64 0, .int .i64 0, .int .u64 0]) (by simp [results, Tryd.results56, go_sem, y0, y1, y2, y3, y4]) rfl ?_
          exact ⟨⟨23, vd, 0, 0, 0#64⟩, rfl, suit1 (x := 1) (by rfl) Hvd.out (byte_nat (j := 0) (by omega)) (byte_nat (j := 0) (by omega)), ⟨by unfold I64; dsimp only; omega, Hvd.out.i64, by unfold I64; dsimp only; omega, by unfold I64; dsimp only; omega⟩, t7, by omega, HT.out.1, HT.out.2⟩
        · have s0 : ((nn : Int) == 0) = false := by simp; omega
          have b2 := HI6.out.b6.cell 2 _ rfl
          have hnn2 := HP.out.nn2
          go_wp2_with fail
          refine (HNX.out _ _ (nn : Int) HI6.out.tape (by omega) (by omega)).mono ?_
          rintro e w7 ⟨vk, rfl, hvk0, hvk1, t7, ht7, hT7, hg7⟩
          have HI7 := Lib.hid (HI6.out.step hT7 hg7 hgw)
          have HX7 := Lib.hid (HX6.out.onlyN hg7 (by omega))
          clear hT7 hg7 z5 x0 x1 x2 x3 x4 xf
          have z5 := HI7.out.b5.cell 0 _ rfl
          have x0 := HX7.out.cell 0 _ rfl
          have x1 := HX7.out.cell 1 _ rfl
          have x2 := HX7.out.cell 2 _ rfl
          have x3 := HX7.out.cell 3 _ rfl
          have x4 := HX7.out.cell 4 _ rfl
          have xf := HX7.out.free
          obtain ⟨kn, rfl⟩ : ∃ kn : Nat, vk = kn := ⟨vk.toNat, by omega⟩
          have hkn : kn < nn := by omega
          have wv : IntKind.u64.wrap (kn : Int) = (kn : Int) := IntWalk.u64_in _ ⟨by omega, by omega⟩
          clear b2 hvk0 hvk1
          go_upto_region 49 with fail
          obtain ⟨bN, oN, q, hNe, -, hq, hcN⟩ := HP.out.nr.elem (f := intCells) (fun _ => rfl) (by omega) hkn
          have hqs := HP.out.small q (List.mem_of_getElem? hq)
          have hNf := HP.out.nff bN oN (by omega) hNe
          obtain ⟨qn, rfl⟩ : ∃ qn : Nat, q = qn := ⟨q.toNat, by omega⟩
          have cN := hcN 0 _ rfl
          simp only [Nat.mul_one, Nat.add_zero] at cN
          have HQ := Lib.hid hq
          subst hNe
          clear hcN hq
          have HI8 := Lib.hid (HI7.out.set hgw hsw (p := ⟨xb, 4, none⟩) hxb (.int .u64 (kn : Int)))
          have HX8 := Lib.hid (show Blk (w7.setCell ⟨xb, 4, none⟩ (.int .u64 (kn : Int))) xb 55 #[.int .i64 22, .int .i64 va, .int .i64 vb, .int .i64 vc, .int .u64 (kn : Int)] from (HX7.out.set 4 (.int .u64 (kn : Int))))
          obtain ⟨w8, hw8⟩ : ∃ w8, (w7.setCell ⟨xb, 4, none⟩ (.int .u64 (kn : Int))) = w8 := ⟨_, rfl⟩
          rw [hw8] at HI8 HX8 ⊢
          clear hw8 z5 x0 x1 x2 x3 x4 xf
          have z5 := HI8.out.b5.cell 0 _ rfl
          have x0 := HX8.out.cell 0 _ rfl
          have x1 := HX8.out.cell 1 _ rfl
          have x2 := HX8.out.cell 2 _ rfl
          have x3 := HX8.out.cell 3 _ rfl
          have x4 := HX8.out.cell 4 _ rfl
          have xf := HX8.out.free
          have hlen := HA.out.length (f := intCells) (fun _ => rfl) (by omega)
          have h4 := HH.out.n4
          have h7 := HH.out.n7
          have wn1 : IntKind.i64.wrap ((n : Int) - (qn : Int)) = (n : Int) - (qn : Int) := IntWalk.i64_in _ (by omega)
          have wn2 : IntKind.i64.wrap ((n : Int) - (qn : Int) + 1) = (n : Int) - (qn : Int) + 1 := IntWalk.i64_in _ (by omega)
          have k0 : (0 : Int) ≤ (kn : Int) := by omega
          have k1 : (kn : Int) < (nn : Int) := by omega
          have L5 : ∀ u, (∃ tq, ISt w u g tq s #[.slice S ns cs, .slice F nf cf, .slice (some ⟨bN, oN, none⟩) nn cn] #[.int .i64 p, .slice A n c, .int .i64 r, .slice B m d]) ∧ u.cell? ⟨xb, 4, none⟩ = some (.int .u64 (kn : Int)) → u.cell? ⟨s, 0, none⟩ = some (.pointer (some ⟨g, 0, none⟩)) := fun u ⟨⟨_, h⟩, _⟩ => h.b5.cell 0 _ rfl
          have L6 : ∀ u, (∃ tq, ISt w u g tq s #[.slice S ns cs, .slice F nf cf, .slice (some ⟨bN, oN, none⟩) nn cn] #[.int .i64 p, .slice A n c, .int .i64 r, .slice B m d]) ∧ u.cell? ⟨xb, 4, none⟩ = some (.int .u64 (kn : Int)) → u.cell? ⟨s + 1, 2, none⟩ = some (.slice (some ⟨bN, oN, none⟩) nn cn) := fun u ⟨⟨_, h⟩, _⟩ => h.b6.cell 2 _ rfl
          have L7 : ∀ u, (∃ tq, ISt w u g tq s #[.slice S ns cs, .slice F nf cf, .slice (some ⟨bN, oN, none⟩) nn cn] #[.int .i64 p, .slice A n c, .int .i64 r, .slice B m d]) ∧ u.cell? ⟨xb, 4, none⟩ = some (.int .u64 (kn : Int)) → u.cell? ⟨s + 1 + 1, 1, none⟩ = some (.slice A n c) := fun u ⟨⟨_, h⟩, _⟩ => h.b7.cell 1 _ rfl
          have LX : ∀ u, (∃ tq, ISt w u g tq s #[.slice S ns cs, .slice F nf cf, .slice (some ⟨bN, oN, none⟩) nn cn] #[.int .i64 p, .slice A n c, .int .i64 r, .slice B m d]) ∧ u.cell? ⟨xb, 4, none⟩ = some (.int .u64 (kn : Int)) → u.cell? ⟨xb, 4, none⟩ = some (.int .u64 (kn : Int)) := fun u h => h.2
          have LN : ∀ u, (∃ tq, ISt w u g tq s #[.slice S ns cs, .slice F nf cf, .slice (some ⟨bN, oN, none⟩) nn cn] #[.int .i64 p, .slice A n c, .int .i64 r, .slice B m d]) ∧ u.cell? ⟨xb, 4, none⟩ = some (.int .u64 (kn : Int)) → u.cell? ⟨bN, oN + kn, none⟩ = some (.int .i64 (qn : Int)) := fun u ⟨⟨_, h⟩, _⟩ => h.only.cell cN (by simp; omega)
          have hS8 : (∃ tq, ISt w w8.drew g tq s #[.slice S ns cs, .slice F nf cf, .slice (some ⟨bN, oN, none⟩) nn cn] #[.int .i64 p, .slice A n c, .int .i64 r, .slice B m d]) ∧ w8.drew.cell? ⟨xb, 4, none⟩ = some (.int .u64 (kn : Int)) := ⟨⟨_, HI8.out.drew⟩, HX8.out.cell 4 _ rfl⟩
          have HLEN := Lib.hid hlen
          clear z5 x0 x1 x2 x3 x4 xf
          go_region_held3 (fun u => (∃ tq, ISt w u g tq s #[.slice S ns cs, .slice F nf cf, .slice (some ⟨bN, oN, none⟩) nn cn] #[.int .i64 p, .slice A n c, .int .i64 r, .slice B m d]) ∧ u.cell? ⟨xb, 4, none⟩ = some (.int .u64 (kn : Int))) (first | exact hS8 | exact hS9 | exact ⟨⟨_, HI9.out.set hgw hsw (p := ⟨xb, 2, none⟩) hxb _⟩, (HX9.out.set 2 _).cell 4 _ rfl⟩) ((go_at_call 39; refine (HNX.out _ _ ((n : Int) - (qn : Int) + 1) HI8.out.drew.tape (by omega) (by omega)).mono ?_; rintro e w9 ⟨vn, rfl, hvn0, hvn1, t9, ht9, hT9, hg9⟩; have HI9 := Lib.hid (HI8.out.drew.step hT9 hg9 hgw); have HX9 := Lib.hid (Blk.onlyN (show Blk w8.drew xb 55 #[.int .i64 22, .int .i64 va, .int .i64 vb, .int .i64 vc, .int .u64 (kn : Int)] from HX8.out) hg9 (by omega)); have hS9 : (∃ tq, ISt w w9 g tq s #[.slice S ns cs, .slice F nf cf, .slice (some ⟨bN, oN, none⟩) nn cn] #[.int .i64 p, .slice A n c, .int .i64 r, .slice B m d]) ∧ w9.cell? ⟨xb, 4, none⟩ = some (.int .u64 (kn : Int)) := ⟨⟨_, HI9.out⟩, HX9.out.cell 4 _ rfl⟩; have x2 := HX9.out.cell 2 _ rfl; have xf := HX9.out.free; clear hT9 hg9))
          obtain ⟨bn, rfl⟩ : ∃ bn : Nat, vn = bn := ⟨vn.toNat, by omega⟩
          clear x2 xf L5 L6 L7 LX LN hS8 hS9
          go_wp2_with fail
          go_meet
          exact ⟨⟨22, va, (bn : Int), vc, BitVec.ofInt 64 (kn : Int)⟩, t9, HI9.out.set hgw hsw (p := ⟨xb, 2, none⟩) hxb (.int .i64 (bn : Int)), by dsimp only; rw [U_ofInt (kn : Int) (by omega) (by omega)]; exact HX9.out.set 2 (.int .i64 (bn : Int)), suit_native (kn := kn) (bn := bn) (q := qn) (U_ofInt (kn : Int) (by omega) (by omega)) HQ.out (by omega) Hva.out rfl (by omega) (by have := HLEN.out; omega) Hvc.out.byte, ⟨by unfold I64; dsimp only; omega, Hva.out.i64, by unfold I64; dsimp only; omega, Hvc.out.i64⟩, by omega⟩
    · as_aux_lemma =>
        skip
        have HSU := Lib.hid (show suitM ns (cnt + 1) fns nats gl r ⟨23, va, vb, vc, BitVec.ofInt 64 0⟩ = true from suit1 (x := 1) (by rfl) Hva.out Hvb.out.byte Hvc.out.byte)
        have HOK := Lib.hid (show NI.ok64 ⟨23, va, vb, vc, BitVec.ofInt 64 0⟩ from ⟨by unfold I64; dsimp only; omega, Hva.out.i64, Hvb.out.i64, Hvc.out.i64⟩)
        have HU := Lib.hid (U_ofInt 0 (by omega) (by omega))
        clear z5 x0 x1 x2 x3 x4 xf
        go_wp2_with fail
        go_meet
        exact ⟨⟨23, va, vb, vc, BitVec.ofInt 64 0⟩, t6, HI6.out, by dsimp only; rw [HU.out]; exact HX6.out, HSU.out, HOK.out, by omega⟩
    · as_aux_lemma =>
        skip
        have HSU := Lib.hid (show suitM ns (cnt + 1) fns nats gl r ⟨24, va, vb, vc, BitVec.ofInt 64 0⟩ = true from suit1 (x := 1) (by rfl) Hva.out Hvb.out.byte Hvc.out.byte)
        have HOK := Lib.hid (show NI.ok64 ⟨24, va, vb, vc, BitVec.ofInt 64 0⟩ from ⟨by unfold I64; dsimp only; omega, Hva.out.i64, Hvb.out.i64, Hvc.out.i64⟩)
        have HU := Lib.hid (U_ofInt 0 (by omega) (by omega))
        clear z5 x0 x1 x2 x3 x4 xf
        go_wp2_with fail
        go_meet
        exact ⟨⟨24, va, vb, vc, BitVec.ofInt 64 0⟩, t6, HI6.out, by dsimp only; rw [HU.out]; exact HX6.out, HSU.out, HOK.out, by omega⟩
    · as_aux_lemma =>
        skip
        have wp1 : IntKind.i64.wrap ((pc : Int) + 1) = (pc : Int) + 1 := IntWalk.i64_in _ (by omega)
        have wcn : IntKind.u64.wrap (cnt : Int) = (cnt : Int) := IntWalk.u64_in _ ⟨by omega, by omega⟩
        go_wp2_with fail
        refine (HNX.out _ _ 3 HI6.out.tape (by omega) (by omega)).mono ?_
        rintro e w7 ⟨vk, rfl, hvk0, hvk1, t7, ht7, hT7, hg7⟩
        have HI7 := Lib.hid (HI6.out.step hT7 hg7 hgw)
        have HX7 := Lib.hid (HX6.out.onlyN hg7 (by omega))
        clear hT7 hg7 z5 x0 x1 x2 x3 x4 xf
        have z5 := HI7.out.b5.cell 0 _ rfl
        have x0 := HX7.out.cell 0 _ rfl
        have x1 := HX7.out.cell 1 _ rfl
        have x2 := HX7.out.cell 2 _ rfl
        have x3 := HX7.out.cell 3 _ rfl
        have x4 := HX7.out.cell 4 _ rfl
        have xf := HX7.out.free
        obtain ⟨vj, hvj⟩ : ∃ vj, (pc : Int) + 1 + vk = vj := ⟨_, rfl⟩
        have wj : IntKind.i64.wrap vj = vj := IntWalk.i64_in _ (by omega)
        have wju : IntKind.u64.wrap vj = vj := IntWalk.u64_in _ ⟨by omega, by omega⟩
        go_upto_region 21 with fail
        have hvj0 : 0 ≤ vj ∧ vj ≤ 40 := by omega
        clear hvj
        have HI8 := Lib.hid (HI7.out.set hgw hsw (p := ⟨xb, 4, none⟩) hxb (.int .u64 vj))
        have HX8 := Lib.hid (show Blk (w7.setCell ⟨xb, 4, none⟩ (.int .u64 vj)) xb 55 #[.int .i64 11, .int .i64 va, .int .i64 vb, .int .i64 vc, .int .u64 vj] from (HX7.out.set 4 (.int .u64 vj)))
        obtain ⟨w8, hw8⟩ : ∃ w8, (w7.setCell ⟨xb, 4, none⟩ (.int .u64 vj)) = w8 := ⟨_, rfl⟩
        rw [hw8] at HI8 HX8 ⊢
        clear hw8 z5 x0 x1 x2 x3 x4 xf
        have z5 := HI8.out.b5.cell 0 _ rfl
        have x0 := HX8.out.cell 0 _ rfl
        have x1 := HX8.out.cell 1 _ rfl
        have x2 := HX8.out.cell 2 _ rfl
        have x3 := HX8.out.cell 3 _ rfl
        have x4 := HX8.out.cell 4 _ rfl
        have xf := HX8.out.free
        obtain ⟨t8, ht8⟩ : ∃ t8, t7 = t8 := ⟨_, rfl⟩
        rw [ht8] at HI8
        go_wp2_with fail
        refine (HNX.out _ _ 8 HI8.out.tape (by omega) (by omega)).mono ?_
        rintro e w9 ⟨v8, rfl, hv80, hv81, t9, ht9, hT9, hg9⟩
        have HI9 := Lib.hid (HI8.out.step hT9 hg9 hgw)
        have HX9 := Lib.hid (HX8.out.onlyN hg9 (by omega))
        clear hT9 hg9 z5 x0 x1 x2 x3 x4 xf
        have z5 := HI9.out.b5.cell 0 _ rfl
        have x0 := HX9.out.cell 0 _ rfl
        have x1 := HX9.out.cell 1 _ rfl
        have x2 := HX9.out.cell 2 _ rfl
        have x3 := HX9.out.cell 3 _ rfl
        have x4 := HX9.out.cell 4 _ rfl
        have xf := HX9.out.free
        by_cases hv8 : v8 = 0
        · have s0 : (v8 == 0) = true := by simp [hv8]
          clear hv8
          go_wp2_with fail
          refine (HNX.out _ _ ((pc : Int) + 1) HI9.out.tape (by omega) (by omega)).mono ?_
          rintro e w10 ⟨vu, rfl, hvu0, hvu1, t10, ht10, hT10, hg10⟩
          have HI10 := Lib.hid (HI9.out.step hT10 hg10 hgw)
          have HX10 := Lib.hid (HX9.out.onlyN hg10 (by omega))
          clear hT10 hg10 z5 x0 x1 x2 x3 x4 xf
          have z5 := HI10.out.b5.cell 0 _ rfl
          have x0 := HX10.out.cell 0 _ rfl
          have x1 := HX10.out.cell 1 _ rfl
          have x2 := HX10.out.cell 2 _ rfl
          have x3 := HX10.out.cell 3 _ rfl
          have x4 := HX10.out.cell 4 _ rfl
          have xf := HX10.out.free
          have wu : IntKind.u64.wrap vu = vu := IntWalk.u64_in _ ⟨by omega, by omega⟩
          go_upto_region 23 with fail
          have HI11 := Lib.hid (HI10.out.set hgw hsw (p := ⟨xb, 4, none⟩) hxb (.int .u64 vu))
          have HX11 := Lib.hid (show Blk (w10.setCell ⟨xb, 4, none⟩ (.int .u64 vu)) xb 55 #[.int .i64 11, .int .i64 va, .int .i64 vb, .int .i64 vc, .int .u64 vu] from (HX10.out.set 4 (.int .u64 vu)))
          obtain ⟨w11, hw11⟩ : ∃ w11, (w10.setCell ⟨xb, 4, none⟩ (.int .u64 vu)) = w11 := ⟨_, rfl⟩
          rw [hw11] at HI11 HX11 ⊢
          clear hw11 z5 x0 x1 x2 x3 x4 xf
          have z5 := HI11.out.b5.cell 0 _ rfl
          have x0 := HX11.out.cell 0 _ rfl
          have x1 := HX11.out.cell 1 _ rfl
          have x2 := HX11.out.cell 2 _ rfl
          have x3 := HX11.out.cell 3 _ rfl
          have x4 := HX11.out.cell 4 _ rfl
          have xf := HX11.out.free
          by_cases hle : vu ≤ (cnt : Int)
          · have hle2 : decide (vu ≤ (cnt : Int)) = true := decide_eq_true hle
            go_wp2_with fail
            clear z5 x0 x1 x2 x3 x4 xf
            go_meet
            exact ⟨⟨11, va, vb, vc, BitVec.ofInt 64 vu⟩, t10, HI11.out.set hgw hsw (p := ⟨xb, 4, none⟩) hxb (.int .u64 vu), by dsimp only; rw [U_ofInt vu (by omega) (by omega)]; exact HX11.out.set 4 (.int .u64 vu), suit_jump (by rw [U_ofInt vu (by omega) (by omega)]; omega) Hva.out.byte Hvb.out.byte Hvc.out.byte, ⟨by unfold I64; dsimp only; omega, Hva.out.i64, Hvb.out.i64, Hvc.out.i64⟩, by omega⟩
          · exfalso; omega
        · have s0 : (v8 == 0) = false := by simp [hv8]
          clear hv8
          go_upto_region 23 with fail
          by_cases hle : vj ≤ (cnt : Int)
          · have hle2 : decide (vj ≤ (cnt : Int)) = true := decide_eq_true hle
            go_wp2_with fail
            clear z5 x0 x1 x2 x3 x4 xf
            go_meet
            exact ⟨⟨11, va, vb, vc, BitVec.ofInt 64 vj⟩, t9, HI9.out.set hgw hsw (p := ⟨xb, 4, none⟩) hxb (.int .u64 vj), by dsimp only; rw [U_ofInt vj (by omega) (by omega)]; exact HX9.out.set 4 (.int .u64 vj), suit_jump (by rw [U_ofInt vj (by omega) (by omega)]; omega) Hva.out.byte Hvb.out.byte Hvc.out.byte, ⟨by unfold I64; dsimp only; omega, Hva.out.i64, Hvb.out.i64, Hvc.out.i64⟩, by omega⟩
          · have hle2 : decide (vj ≤ (cnt : Int)) = false := decide_eq_false hle
            go_wp2_with fail
            clear z5 x0 x1 x2 x3 x4 xf
            go_meet
            exact ⟨⟨11, va, vb, vc, BitVec.ofInt 64 (cnt : Int)⟩, t9, HI9.out.set hgw hsw (p := ⟨xb, 4, none⟩) hxb (.int .u64 (cnt : Int)), by dsimp only; rw [U_ofInt (cnt : Int) (by omega) (by omega)]; exact HX9.out.set 4 (.int .u64 (cnt : Int)), suit_jump (by rw [U_ofInt (cnt : Int) (by omega) (by omega)]; omega) Hva.out.byte Hvb.out.byte Hvc.out.byte, ⟨by unfold I64; dsimp only; omega, Hva.out.i64, Hvb.out.i64, Hvc.out.i64⟩, by omega⟩
end Go.Proofs.YtnnchinpmnpfiaaDoor

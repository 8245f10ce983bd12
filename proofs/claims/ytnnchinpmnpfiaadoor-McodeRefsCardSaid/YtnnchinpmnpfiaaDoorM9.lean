/- The sanity check of the statements about mcode. -/
import Derived.Test.YtnnchinpmnpfiaaDoorM8
namespace Go.Proofs.YtnnchinpmnpfiaaDoor
open Go.ChangeShapes Go.WideShapes Go.RowKit Words

theorem allH_nil (gc : Nat) (w : World) : Calls Tryd.prog 22 #[.slice none 0 0, .func (.func 23) #[] #[.pointer (some ⟨gc, 0, none⟩)]] w fun e w' => e = .returned (.bool true) ∧ Below w.heap.size w w' := by
  have hc : ∀ wq, Calls Tryd.prog 42 #[.slice none 0 0, .func (.func 23) #[] #[.pointer (some ⟨gc, 0, none⟩)]] wq fun e w' => e = .returned (.int .i64 0) ∧ Below wq.heap.size wq w' := fun wq => by
    go_enter Tryd.func42, Tryd.ntmps42
    go_wp2_with fail
    go_loopw [5, 10] (fun s x wr => s = .int .i64 0 ∧ x = .int .i64 0 ∧ Below wq.heap.size wq wr) (fun _ _ _ => 0)
    case atStart => exact ⟨rfl, rfl, Below.refl _ _⟩
    case round =>
      obtain ⟨rfl, rfl, hb⟩ := hrel
      go_wp2_with fail
      go_ret
      exact ⟨rfl, hb⟩
  go_enter Tryd.func22, Tryd.ntmps22
  go_wp2_with fail
  refine (hc _).mono ?_
  rintro e w2 ⟨rfl, hb2⟩
  go_wp2_with fail
  go_ret
  exact ⟨rfl, hb2⟩
theorem check3_any (S : Option Addr) (ns cs : Nat) (F : Option Addr) (nf cf : Nat) (N : Option Addr) (nn cn : Nat) (x : FC) (gp : Nat) (v : Bool) (w : World)
    (X0 : Blk w gp 37 #[.slice S ns cs, .slice F nf cf, .slice N nn cn])
    (hS : ∀ wq, Below w.heap.size w wq → Calls Tryd.prog 30 #[prV S ns cs F nf cf N nn cn, fcV x] wq fun e w' => e = .returned (.bool v) ∧ Below wq.heap.size wq w') :
    Calls Tryd.prog 29 #[fcV x, .pointer (some ⟨gp, 0, none⟩)] w fun e w' => e = .returned (.bool v) ∧ Below w.heap.size w w' := by
  obtain ⟨p, A, n, c, r, B, m, d⟩ := x
  have hB : Below w.heap.size w (w.alloc (.cells #[.int .i64 p, .slice A n c, .int .i64 r, .slice B m d] 49)) := keep_alloc (Below.refl _ _) _
  have Y0 := X0.below hB
  have y0 := Y0.cell 0 _ rfl
  have y1 := Y0.cell 1 _ rfl
  have y2 := Y0.cell 2 _ rfl
  have HS := Lib.hid (hS _ hB)
  clear hS X0 Y0
  go_enter Tryd.func29, Tryd.ntmps29
  go_wp2_with fail
  refine HS.out.mono ?_
  rintro e w2 ⟨rfl, hb2⟩
  clear HS
  go_wp2_with fail
  go_ret
  exact ⟨rfl, keep_below hb2 hB⟩
theorem check_empty (w : World) : Calls Tryd.prog 8 #[prV none 0 0 none 0 0 none 0 0, .agg #[.int .i64 16, .int .i64 8]] w fun e w' => e = .returned (.int .i64 16) ∧ Below w.heap.size w w' := by
  have hB : Below w.heap.size w ((w.alloc (.cells #[.slice none 0 0, .slice none 0 0, .slice none 0 0] 37)).alloc (.cells #[.int .i64 16, .int .i64 8] 28)) := keep_alloc (keep_alloc (Below.refl _ _) _) _
  go_enter Tryd.func8, Tryd.ntmps8
  go_wp2_with fail
  go_ret
  exact ⟨rfl, hB⟩
set_option linter.unusedSimpArgs false in
set_option maxRecDepth 100000 in
set_option maxHeartbeats 4000000 in
theorem check_one (gf ga gi : Nat) (w : World) (hF : Reads w w.heap.size 4 (some ⟨gf, 0, none⟩) 1 1 (([⟨0, some ⟨ga, 0, none⟩, 1, 1, 1, some ⟨gi, 0, none⟩, 1, 1⟩] : List FC).flatMap fcCells))
    (hA : Reads w w.heap.size 1 (some ⟨ga, 0, none⟩) 1 1 (([1] : List Int).flatMap intCells)) (hI : Reads w w.heap.size 5 (some ⟨gi, 0, none⟩) 1 1 (([⟨25, 0, 0, 0, 0#64⟩] : List NI).flatMap insCells)) :
    Calls Tryd.prog 8 #[prV none 0 0 (some ⟨gf, 0, none⟩) 1 1 none 0 0, .agg #[.int .i64 16, .int .i64 8]] w fun e w' => e = .returned (.int .i64 0) ∧ Below w.heap.size w w' := by
  have hB : Below w.heap.size w ((w.alloc (.cells #[.slice none 0 0, .slice (some ⟨gf, 0, none⟩) 1 1, .slice none 0 0] 37)).alloc (.cells #[.int .i64 16, .int .i64 8] 28)) := keep_alloc (keep_alloc (Below.refl _ _) _) _
  have X0 := (Blk.new w #[.slice none 0 0, .slice (some ⟨gf, 0, none⟩) 1 1, .slice none 0 0] 37).alloc (.cells #[.int .i64 16, .int .i64 8] 28)
  go_enter Tryd.func8, Tryd.ntmps8
  go_wp2_with fail
  refine (allH_nil _ _).mono ?_
  rintro e w2 ⟨rfl, hb2⟩
  have hB2 := keep_below hb2 hB
  have X2 := X0.below hb2
  obtain ⟨g, hg⟩ : ∃ g, w.heap.size = g := ⟨_, rfl⟩
  have HG := Lib.hid hg
  rw [hg] at X2 ⊢
  have x0 := X2.cell 0 _ rfl
  have x1 := X2.cell 1 _ rfl
  have x2 := X2.cell 2 _ rfl
  clear hg hb2 X0 hB
  go_wp2_with fail
  refine (allF_any none 0 0 [] _ Reads.nil (by omega)).mono ?_
  rintro e w3 ⟨rfl, hb3⟩
  have hB3 := keep_below hb3 hB2
  have X3 := X2.below hb3
  clear x0 x1 x2 hb3 hB2 X2
  have x0 := X3.cell 0 _ rfl
  have x1 := X3.cell 1 _ rfl
  have x2 := X3.cell 2 _ rfl
  have hF3 := hF.belowU hB3
  have hA3 := hA.belowU hB3
  have hI3 := hI.belowU hB3
  obtain ⟨b, o, he, -, hc⟩ := hF3.at_ (by omega)
  cases he
  have f0 := hc 0 _ rfl
  have f1 := hc 1 _ rfl
  have f2 := hc 2 _ rfl
  have f3 := hc 3 _ rfl
  rw [Nat.add_zero] at f0
  rw [Nat.zero_add] at f1 f2 f3
  clear hc
  have hB4 := keep_alloc hB3 (.cells #[.int .i64 0, .slice (some ⟨ga, 0, none⟩) 1 1, .int .i64 1, .slice (some ⟨gi, 0, none⟩) 1 1] 49)
  have hb34 : Below w3.heap.size w3 (w3.alloc (.cells #[.int .i64 0, .slice (some ⟨ga, 0, none⟩) 1 1, .int .i64 1, .slice (some ⟨gi, 0, none⟩) 1 1] 49)) := keep_alloc (Below.refl _ _) _
  have X4 := X3.below hb34
  have hF4 := hF3.belowU hb34
  have hA4 := hA3.belowU hb34
  have hI4 := hI3.belowU hb34
  clear hb34
  have y1 := X4.cell 1 _ rfl
  go_wp2_with fail
  refine (allG_any g _ 1 1 [⟨0, some ⟨ga, 0, none⟩, 1, 1, 1, some ⟨gi, 0, none⟩, 1, 1⟩] (fun _ => true) _ hF4 ?_ (by omega)).mono ?_
  · intro x hx wq hq
    simp only [List.mem_singleton] at hx
    subst hx
    refine check3_any none 0 0 (some ⟨gf, 0, none⟩) 1 1 none 0 0 _ g true wq (X4.below hq) (fun wz hz => ?_)
    have hqz := keep_below hz hq
    have := valid_any none 0 0 (some ⟨gf, 0, none⟩) 1 1 none 0 0 0 (some ⟨ga, 0, none⟩) 1 1 1 (some ⟨gi, 0, none⟩) 1 1 [1] [⟨25, 0, 0, 0, 0#64⟩] (fun _ => true) wz (hA4.belowU hqz) (hI4.belowU hqz) (by omega) (by omega) (fun x hx wy hy => by
      simp only [List.mem_singleton] at hx
      subst hx
      have := suits_any none 0 0 (some ⟨gf, 0, none⟩) 1 1 none 0 0 0 (some ⟨ga, 0, none⟩) 1 1 1 (some ⟨gi, 0, none⟩) 1 1 ⟨25, 0, 0, 0, 0#64⟩ [1] [0] [1] true wy (hA4.belowU (keep_below hy hqz)) rfl (by decide) (fun _ _ z hz => by simp only [List.mem_singleton] at hz; omega) (fun wx _ => kinds_ret none 0 0 (some ⟨gf, 0, none⟩) 1 1 none 0 0 0 (some ⟨ga, 0, none⟩) 1 1 1 (some ⟨gi, 0, none⟩) 1 1 0 0 0 0#64 wx)
      exact this)
    exact this
  · rintro e w5 ⟨rfl, hb5⟩
    clear f0 f1 f2 f3 x0 x1 x2 y1
    go_wp2_with fail
    go_ret
    exact ⟨rfl, keep_below hb5 hB4⟩
set_option linter.unusedSimpArgs false in
set_option maxRecDepth 100000 in
set_option maxHeartbeats 4000000 in
theorem awake_any (w : World) : Calls Tryd.prog 11 #[] w fun e w' => e = .returned (.bool true) ∧ Below w.heap.size w w' := by
  have hB : Below w.heap.size w ((((w.alloc (.cells #[.int .i64 1] 3)).alloc (.cells #[.int .i64 25, .int .i64 0, .int .i64 0, .int .i64 0, .int .u64 0] 53)).alloc (.cells #[.int .i64 0, .slice (some ⟨w.heap.size, 0, none⟩) 1 1, .int .i64 1, .slice (some ⟨w.heap.size + 1, 0, none⟩) 1 1] 49)).alloc (.cells #[.slice none 0 0, .slice (some ⟨w.heap.size + 1 + 1, 0, none⟩) 1 1, .slice none 0 0] 37)) := keep_alloc (keep_alloc (keep_alloc (keep_alloc (Below.refl _ _) _) _) _) _
  have R1 := Reads.freshAt w #[.int .i64 1] 3 1 1 (([1] : List Int).flatMap intCells) w.heap.size rfl rfl rfl (by decide)
  have R1a := R1.belowU (keep_alloc (Below.refl _ _) (.cells #[.int .i64 25, .int .i64 0, .int .i64 0, .int .i64 0, .int .u64 0] 53))
  have R2 := Reads.freshAt (w.alloc (.cells #[.int .i64 1] 3)) #[.int .i64 25, .int .i64 0, .int .i64 0, .int .i64 0, .int .u64 0] 53 5 1 (([⟨25, 0, 0, 0, 0#64⟩] : List NI).flatMap insCells) (w.heap.size + 1) (by simp) rfl rfl (by decide)
  have R1b := R1a.belowU (keep_alloc (Below.refl _ _) (.cells #[.int .i64 0, .slice (some ⟨w.heap.size, 0, none⟩) 1 1, .int .i64 1, .slice (some ⟨w.heap.size + 1, 0, none⟩) 1 1] 49))
  have R2b := R2.belowU (keep_alloc (Below.refl _ _) (.cells #[.int .i64 0, .slice (some ⟨w.heap.size, 0, none⟩) 1 1, .int .i64 1, .slice (some ⟨w.heap.size + 1, 0, none⟩) 1 1] 49))
  have R3 := Reads.freshAt ((w.alloc (.cells #[.int .i64 1] 3)).alloc (.cells #[.int .i64 25, .int .i64 0, .int .i64 0, .int .i64 0, .int .u64 0] 53)) #[.int .i64 0, .slice (some ⟨w.heap.size, 0, none⟩) 1 1, .int .i64 1, .slice (some ⟨w.heap.size + 1, 0, none⟩) 1 1] 49 4 1 (([⟨0, some ⟨w.heap.size, 0, none⟩, 1, 1, 1, some ⟨w.heap.size + 1, 0, none⟩, 1, 1⟩] : List FC).flatMap fcCells) (w.heap.size + 1 + 1) (by simp) rfl rfl (by decide)
  have hk := keep_alloc (Below.refl _ _) (.cells #[.slice none 0 0, .slice (some ⟨w.heap.size + 1 + 1, 0, none⟩) 1 1, .slice none 0 0] 37) (w := (((w.alloc (.cells #[.int .i64 1] 3)).alloc (.cells #[.int .i64 25, .int .i64 0, .int .i64 0, .int .i64 0, .int .u64 0] 53)).alloc (.cells #[.int .i64 0, .slice (some ⟨w.heap.size, 0, none⟩) 1 1, .int .i64 1, .slice (some ⟨w.heap.size + 1, 0, none⟩) 1 1] 49)))
  have HC := Lib.hid (check_one (w.heap.size + 1 + 1) w.heap.size (w.heap.size + 1) _ (R3.belowU hk) (R1b.belowU hk) (R2b.belowU hk))
  clear R1 R1a R1b R2 R2b R3 hk
  go_enter Tryd.func11, Tryd.ntmps11
  go_wp2_with fail
  refine HC.out.mono ?_
  rintro e w2 ⟨rfl, hb2⟩
  have hB2 := keep_below hb2 hB
  clear HC hb2 hB
  go_wp2_with fail
  refine (check_empty _).mono ?_
  rintro e w3 ⟨rfl, hb3⟩
  have hB3 := keep_below hb3 hB2
  go_wp2_with fail
  go_ret
  exact ⟨rfl, hB3⟩
end Go.Proofs.YtnnchinpmnpfiaaDoor
